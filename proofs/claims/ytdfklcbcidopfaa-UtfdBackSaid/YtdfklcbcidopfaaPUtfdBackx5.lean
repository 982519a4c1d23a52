-- Written by a program of this session over the print of the kit (functions marked FOREIGN are proved by this session).
import Derived.Test.YtdfklcbcidopfaaPUtfdBackx0
import Derived.Test.YtdfklcbcidopfaaPUtfdBackx1
import Derived.Test.YtdfklcbcidopfaaPUtfdBackx3
import Derived.Test.YtdfklcbcidopfaaPUtfdBackx4
namespace Go.Proofs.Ytdfklcbcidopfaa.PUtfdBack
open Go.RowKit Go.Proofs.YtdfklcbcidopfaaW.PrintWords Go.Proofs.YtdfklcbcidopfaaW.PrintLast Go.Proofs.YtdfklcbcidopfaaW.PrintMore
theorem run_sb (w : World) (s : ByteArray) : (convert 9 32 (.string s)).run Try.prog w = .ok (.slice (some ⟨w.heap.size, 0, none⟩) s.size (grownCap w s.size 0 5)) (Lib.bytesWorld w 5 s) := Lib.run_convert_string_bytes w 9 32 5 s Try.underlying9 Try.underlying32 Try.underlying5
theorem run_sb_back (w : World) (s : ByteArray) (c : Nat) : (convert 32 9 (.slice (some ⟨w.heap.size, 0, none⟩) s.size c)).run Try.prog (Lib.bytesWorld w 5 s) = .ok (.string s) (Lib.bytesWorld w 5 s) := run_back w 32 9 5 s c Try.underlying32 Try.underlying5 Try.underlying9
attribute [local go_sem] run_sb run_sb_back
attribute [local go_sem] max2_int min2_int max_two min_two max_three min_three max_four min_four   -- for this text's walks alone
set_option linter.unusedVariables false
set_option linter.unusedSimpArgs false

attribute [local go_sem high] eqA25
/-! ### polyptychlaw1_UtfdBack: function 6 -/
mutual
def polyptychlaw1_UtfdBack.j0 : Nat → Int → List Int → Bool → Option (Bool)
  | 0, _, _, _ => none
  | k + 1, x3, x4, x23 => if x23 = true then (some false) else (polyptychlaw1_UtfdBack.l0 k x3 x4 ([] : List Int) (x4.length : Int) 0 0 0 0)
def polyptychlaw1_UtfdBack.l0 : Nat → Int → List Int → List Int → Int → Int → Int → Int → Int → Option (Bool)
  | 0, _, _, _, _, _, _, _, _ => none
  | k + 1, x3, x4, x6, x26, x27, x202000, x202001, x202002 => if x27 < x26 then (if x27 = (wrap64 ((x4.length : Int) - 1)) then (if (x6.length : Int) > 0 then (some false) else ((utfd_End.f x202000 x202001 x202002).bind fun t210 => (if (t210.length : Int) = (mn x27 1) then (if 0 ≤ x27 then (if x27 < (x4.length : Int) then ((utfd_Step.f k x202000 x202001 x202002 (rd x4 x27)).bind fun bt214 => (if x6.length + bt214.2.2.2.length < 35184372088832 then (polyptychlaw1_UtfdBack.l0 k x3 x4 (x6 ++ bt214.2.2.2) x26 (wrap64 (x27 + 1)) bt214.1 bt214.2.1 bt214.2.2.1) else (none))) else (none)) else (none)) else (some false)))) else (if 0 ≤ x27 then (if x27 < (x4.length : Int) then ((utfd_Step.f k x202000 x202001 x202002 (rd x4 x27)).bind fun bt225 => (if x6.length + bt225.2.2.2.length < 35184372088832 then (polyptychlaw1_UtfdBack.l0 k x3 x4 (x6 ++ bt225.2.2.2) x26 (wrap64 (x27 + 1)) bt225.1 bt225.2.1 bt225.2.2.1) else (none))) else (none)) else (none))) else (if x3 > 1114111 then (if (x6.length : Int) = 1 then (if 0 < (x6.length : Int) then (if (rd x6 0) = 65533 then (if (x202000 == 0 && (x202001 == 0 && (x202002 == 0))) = true then (if (strOfNums x4).toList = (Utf8.encode 65533).toList then ((polyptychlaw1_awake.f k).bind fun t203 => (some t203)) else (some false)) else (some false)) else (some false)) else (none)) else (some false)) else (if x3 ≥ 55296 then (if x3 ≤ 57343 then (if (x6.length : Int) = 1 then (if 0 < (x6.length : Int) then (if (rd x6 0) = 65533 then (if (x202000 == 0 && (x202001 == 0 && (x202002 == 0))) = true then (if (strOfNums x4).toList = (Utf8.encode 65533).toList then ((polyptychlaw1_awake.f k).bind fun t205 => (some t205)) else (some false)) else (some false)) else (some false)) else (none)) else (some false)) else (if (x6.length : Int) = 1 then (if 0 < (x6.length : Int) then (if (rd x6 0) = x3 then (if (x202000 == 0 && (x202001 == 0 && (x202002 == 0))) = true then (if (strOfNums x4).toList = (Utf8.encode x3).toList then ((polyptychlaw1_awake.f k).bind fun t207 => (some t207)) else (some false)) else (some false)) else (some false)) else (none)) else (some false))) else (if (x6.length : Int) = 1 then (if 0 < (x6.length : Int) then (if (rd x6 0) = x3 then (if (x202000 == 0 && (x202001 == 0 && (x202002 == 0))) = true then (if (strOfNums x4).toList = (Utf8.encode x3).toList then ((polyptychlaw1_awake.f k).bind fun t209 => (some t209)) else (some false)) else (some false)) else (some false)) else (none)) else (some false))))
end
def polyptychlaw1_UtfdBack.f (k : Nat) (a0 : Int) : Option (Bool) := (utfd_Put.f k (wrap32 (Go.bits .and .i64 a0 2097151))).bind fun t198 => (if (t198.length : Int) < 1 then (polyptychlaw1_UtfdBack.j0 k (wrap32 (Go.bits .and .i64 a0 2097151)) t198 true) else (polyptychlaw1_UtfdBack.j0 k (wrap32 (Go.bits .and .i64 a0 2097151)) t198 (decide ((t198.length : Int) > 4))))
theorem polyptychlaw1_UtfdBack.mono_l : ∀ k, (∀ y0 y1 y2, LeO (polyptychlaw1_UtfdBack.j0 k y0 y1 y2) (polyptychlaw1_UtfdBack.j0 (k + 1) y0 y1 y2)) ∧ (∀ y0 y1 y2 y3 y4 y5 y6 y7, LeO (polyptychlaw1_UtfdBack.l0 k y0 y1 y2 y3 y4 y5 y6 y7) (polyptychlaw1_UtfdBack.l0 (k + 1) y0 y1 y2 y3 y4 y5 y6 y7))
  | 0 => ⟨fun _ _ _ r h => by simp [polyptychlaw1_UtfdBack.j0] at h, fun _ _ _ _ _ _ _ _ r h => by simp [polyptychlaw1_UtfdBack.l0] at h⟩
  | k + 1 => by
    obtain ⟨ih0, ih1⟩ := polyptychlaw1_UtfdBack.mono_l k
    refine ⟨?_, ?_⟩
    · intro y0 y1 y2
      unfold polyptychlaw1_UtfdBack.j0
      repeat' first
      | (with_reducible exact ih0 _ _ _)
      | (with_reducible exact ih1 _ _ _ _ _ _ _ _)
      | (with_reducible exact polyptychlaw1_awake.mono _)
      | (with_reducible exact utfd_Put.mono _ _)
      | (with_reducible exact utfd_Step.mono _ _ _ _ _)
      | (with_reducible exact LeO.refl _)
      | (with_reducible exact LeO.none _)
      | (with_reducible refine LeO.ite ?_ ?_)
      | (with_reducible refine LeO.bind ?_ (fun _ => ?_))
      | exact ih0 _ _ _
      | exact ih1 _ _ _ _ _ _ _ _
      | exact polyptychlaw1_awake.mono _
      | exact utfd_Put.mono _ _
      | exact utfd_Step.mono _ _ _ _ _
      | exact LeO.none _
      | refine LeO.ite ?_ ?_
      | refine LeO.bind ?_ (fun _ => ?_)
    · intro y0 y1 y2 y3 y4 y5 y6 y7
      unfold polyptychlaw1_UtfdBack.l0
      repeat' first
      | (with_reducible exact ih0 _ _ _)
      | (with_reducible exact ih1 _ _ _ _ _ _ _ _)
      | (with_reducible exact polyptychlaw1_awake.mono _)
      | (with_reducible exact utfd_Put.mono _ _)
      | (with_reducible exact utfd_Step.mono _ _ _ _ _)
      | (with_reducible exact LeO.refl _)
      | (with_reducible exact LeO.none _)
      | (with_reducible refine LeO.ite ?_ ?_)
      | (with_reducible refine LeO.bind ?_ (fun _ => ?_))
      | exact ih0 _ _ _
      | exact ih1 _ _ _ _ _ _ _ _
      | exact polyptychlaw1_awake.mono _
      | exact utfd_Put.mono _ _
      | exact utfd_Step.mono _ _ _ _ _
      | exact LeO.none _
      | refine LeO.ite ?_ ?_
      | refine LeO.bind ?_ (fun _ => ?_)
theorem polyptychlaw1_UtfdBack.mono : ∀ a0 k, LeO (polyptychlaw1_UtfdBack.f k a0) (polyptychlaw1_UtfdBack.f (k + 1) a0) := by
  intro a0 k
  obtain ⟨ih0, ih1⟩ := polyptychlaw1_UtfdBack.mono_l k
  unfold polyptychlaw1_UtfdBack.f
  repeat' first
      | (with_reducible exact ih0 _ _ _)
      | (with_reducible exact ih1 _ _ _ _ _ _ _ _)
      | (with_reducible exact polyptychlaw1_awake.mono _)
      | (with_reducible exact utfd_Put.mono _ _)
      | (with_reducible exact utfd_Step.mono _ _ _ _ _)
      | (with_reducible exact LeO.refl _)
      | (with_reducible exact LeO.none _)
      | (with_reducible refine LeO.ite ?_ ?_)
      | (with_reducible refine LeO.bind ?_ (fun _ => ?_))
      | exact ih0 _ _ _
      | exact ih1 _ _ _ _ _ _ _ _
      | exact polyptychlaw1_awake.mono _
      | exact utfd_Put.mono _ _
      | exact utfd_Step.mono _ _ _ _ _
      | exact LeO.none _
      | refine LeO.ite ?_ ?_
      | refine LeO.bind ?_ (fun _ => ?_)
def polyptychlaw1_UtfdBack.T12 : Bool × List (List Nat × List Nat) := (true, [([], []), ([], []), ([], []), ([1, 2], [1, 2]), ([3], [3]), ([0, 4], [0, 4]), ([5], [5]), ([6], [6]), ([6], [6]), ([], []), ([9, 7, 5, 0, 1, 2, 3, 4, 5, 6, 7, 9], [7, 9]), ([8, 10, 0, 1, 2, 3, 4, 5, 6, 7, 8, 9, 10], [8])])
def polyptychlaw1_UtfdBack.B12 : List Nat := [0, 0, 0, 6, 14, 31, 63, 127, 127, 0, 767, 2047]
theorem polyptychlaw1_UtfdBack.tab12 : rtab .any (opsOf Try.f6 12) = polyptychlaw1_UtfdBack.T12 := by kernel_rfl
theorem polyptychlaw1_UtfdBack.bits12 : waitsOk polyptychlaw1_UtfdBack.T12.2 polyptychlaw1_UtfdBack.B12 = true := by kernel_rfl
set_option maxHeartbeats 8000000 in
set_option maxRecDepth 100000 in
theorem polyptychlaw1_UtfdBack.calls (k : Nat) (a0 : Int) (r : Bool) (w : World) (h : polyptychlaw1_UtfdBack.f k a0 = some r) (hT_ : Aside0 (r = true)) :
    Calls Try.prog 6 #[.int .i64 a0] w fun e w' => e = .returned (.bool r) ∧ Below w.heap.size w w' := by
  have hu25 := Try.underlying25
  have HB := Aside0.mk (Below.refl w.heap.size w)
  have H : ((utfd_Put.f k (wrap32 (Go.bits .and .i64 a0 2097151))).bind fun t198 => (if (t198.length : Int) < 1 then (polyptychlaw1_UtfdBack.j0 k (wrap32 (Go.bits .and .i64 a0 2097151)) t198 true) else (polyptychlaw1_UtfdBack.j0 k (wrap32 (Go.bits .and .i64 a0 2097151)) t198 (decide ((t198.length : Int) > 4))))) = some r := h
  clear h
  replace H := Option.bind_eq_some_iff.mp H
  obtain ⟨t198, A20, H⟩ := H
  replace H : (if (t198.length : Int) < 1 then (polyptychlaw1_UtfdBack.j0 k (wrap32 (Go.bits .and .i64 a0 2097151)) t198 true) else (polyptychlaw1_UtfdBack.j0 k (wrap32 (Go.bits .and .i64 a0 2097151)) t198 (decide ((t198.length : Int) > 4)))) = some r := H
  have A2 := Aside0.mk A20
  clear A20
  have HC3 := Aside0.mk H
  clear H
  go_enter Try.func6, Try.ntmps6
  go_upto_region 3 with (first | ((with_reducible refine gate_callee (f := 13) rfl ?_); refine goesL_ (some 15) rfl rfl Try.func13 (by kernel_rfl) rfl #[.int .i32 (wrap32 (Go.bits .and .i64 a0 2097151))] rfl (by (try simp only [List.map_toArray, List.map_cons, List.map_nil]); first | done | rfl | (simp only [List.length_drop, List.length_take]; rfl)) ?_; (with_reducible refine (utfd_Put.calls k (wrap32 (Go.bits .and .i64 a0 2097151)) t198 _ A2.out).mono ?_); rintro e w4 ⟨v199, rfl, ho0, hb⟩; refine ⟨_, rfl, ?_⟩; have n0_ := Aside0.mk (Kd.R_lower ho0 (below_size (by repeat (first | (with_reducible first | exact HB.out | apply below_alloc | apply pw_below_drewN | apply below_drew1 | apply below_bytes) | exact HB.out)))); have n1_ := Aside0.mk (below_step (by repeat (first | (with_reducible first | exact HB.out | apply below_alloc | apply pw_below_drewN | apply below_drew1 | apply below_bytes) | exact HB.out)) hb); clear HB; have HO200 := n0_; have HB := n1_; clear n0_ n1_; (try clear hb); (try clear hb2); (try clear hk); (try clear hi); (try clear ho0)))
  (try simp only [Act.put, List.setIfInBounds_toArray, List.set_cons_zero, List.set_cons_succ])
  go_cut [23] (fun v23 wc => ∃ (kq : Nat) (x23_2 : Bool), v23 = .bool x23_2 ∧ Aside0 (polyptychlaw1_UtfdBack.j0 kq (wrap32 (Go.bits .and .i64 a0 2097151)) t198 x23_2 = some r) ∧ Aside0 (kq ≤ k) ∧ Aside0 (Kd.R (Kd.int .u8) 5 wc w.heap.size (fun _ => True) v199 t198) ∧ Aside0 (Below w.heap.size w wc))
  case first =>
    have H := HC3.out
    clear HC3
    by_cases c5 : (t198.length : Int) < 1
    · rw [if_pos c5] at H
      have c5b0 : decide ((t198.length : Int) < 1) = true := decide_eq_true c5
      have c5b1 : decide (t198.length < 1) = true := decide_eq_true (by omega)
      clear c5
      (first | rw [c5b0] | (simp only [i64_w, i32_w]; rw [c5b0]) | skip)
      have H' := Aside0.mk H
      clear H
      obtain ⟨Ao6, co6, eo6⟩ := Kd.R_slice HO200.out
      subst eo6
      go_wp2
      go_meet
      case rel => exact ⟨_, (true), (by first | rfl | (simp; done) | (simp [*]; done)), H', ⟨by first | omega | exact Nat.le_refl _⟩, ⟨by (with_reducible repeat (first | apply Kd.R_alloc | apply Kd.R_drewN | apply Kd.R_drew | apply Kd.R_bytes)); exact HO200.out⟩, ⟨by repeat (first | (with_reducible first | exact HB.out | apply below_alloc | apply pw_below_drewN | apply below_drew1 | apply below_bytes) | exact HB.out)⟩⟩
    · rw [if_neg c5] at H
      have c5b0 : decide ((t198.length : Int) < 1) = false := decide_eq_false c5
      have c5b1 : decide (t198.length < 1) = false := decide_eq_false (by omega)
      clear c5
      (first | rw [c5b0] | (simp only [i64_w, i32_w]; rw [c5b0]) | skip)
      have H' := Aside0.mk H
      clear H
      obtain ⟨Ao7, co7, eo7⟩ := Kd.R_slice HO200.out
      subst eo7
      go_wp2
      go_meet
      case rel => exact ⟨_, (decide ((t198.length : Int) > 4)), (by first | rfl | (simp; done) | (simp [*]; done)), H', ⟨by first | omega | exact Nat.le_refl _⟩, ⟨by (with_reducible repeat (first | apply Kd.R_alloc | apply Kd.R_drewN | apply Kd.R_drew | apply Kd.R_bytes)); exact HO200.out⟩, ⟨by repeat (first | (with_reducible first | exact HB.out | apply below_alloc | apply pw_below_drewN | apply below_drew1 | apply below_bytes) | exact HB.out)⟩⟩
  case rest =>
    clear HC3
    try clear c1
    try clear p2
    try clear p3
    try clear c5
    try clear c5b0
    try clear c5b1
    try clear c6
    obtain ⟨kq, x23_2, rfl, HA, HJ2, HO_4, HB⟩ := hcut
    cases kq with
    | zero => exact absurd HA.out (by simp [polyptychlaw1_UtfdBack.j0])
    | succ kj2 =>
      have H := HA.out
      clear HA
      simp only [polyptychlaw1_UtfdBack.j0] at H
      by_cases c8 : x23_2 = true
      · subst c8
        have H1 : (some false) = some r := by rw [if_pos rfl] at H; exact H
        clear H
        have H := H1
        clear H1
        exact absurd ((Option.some.inj H).trans hT_.out) (by decide)
      · replace c8 := Bool.eq_false_iff.mpr c8
        subst c8
        have H1 : (polyptychlaw1_UtfdBack.l0 kj2 (wrap32 (Go.bits .and .i64 a0 2097151)) t198 ([] : List Int) (t198.length : Int) 0 0 0 0) = some r := by rw [if_neg (show ¬ (false = true) by decide)] at H; exact H
        clear H
        have H := H1
        clear H1
        have H' := Aside0.mk H
        clear H
        go_wp2_with (first | ((with_reducible refine gate_dst (N := 5) rfl ?_); (try (refine gate_guard (by rfl) ?_; dsimp only)); refine box_event ?hg (N := 5) ?hd (cs := #[.int .i64 0, .int .i64 0, .int .i64 0]) (t := 25) ?hr ?_; (case hd => rfl); (case hg => rfl); (case hr => first | (go_simp; done) | (go_simp; rfl)); intro gb201 hg w9 hbox hb; have n0_ := Aside0.mk (Kd.R_below (by (with_reducible repeat (first | apply Kd.R_alloc | apply Kd.R_drewN | apply Kd.R_drew | apply Kd.R_bytes)); exact HO_4.out) hb); have n1_ := Aside0.mk (below_step (by repeat (first | (with_reducible first | exact HB.out | apply below_alloc | apply pw_below_drewN | apply below_drew1 | apply below_bytes) | exact HB.out)) hb); have n2_ := Aside0.mk (hbox); have n3_ := Aside0.mk ((by rw [hg]; exact (below_size (by repeat (first | (with_reducible first | exact HB.out | apply below_alloc | apply pw_below_drewN | apply below_drew1 | apply below_bytes) | exact HB.out))) : w.heap.size ≤ gb201)); have n4_ := Aside0.mk ((by rw [hg]; exact (below_size (by repeat (first | (with_reducible first | exact HB.out | apply below_alloc | apply pw_below_drewN | apply below_drew1 | apply below_bytes) | exact HB.out))) : w.heap.size ≤ gb201)); clear HO_4; clear HB; have HO_4 := n0_; have HB := n1_; have BK201 := n2_; have GW201 := n3_; have GE201 := n4_; clear n0_ n1_ n2_ n3_ n4_; clear hb hbox hg; have hcz10_0 : w9.cell? ⟨gb201, 0, none⟩ = some (.int .i64 0) := (blk_cell BK201.out 0).trans rfl; have hcz10_1 : w9.cell? ⟨gb201, 1, none⟩ = some (.int .i64 0) := (blk_cell BK201.out 1).trans rfl; have hcz10_2 : w9.cell? ⟨gb201, 2, none⟩ = some (.int .i64 0) := (blk_cell BK201.out 2).trans rfl; have hfz10_0 := blk_frozen BK201.out 0; have hfz10_1 := blk_frozen BK201.out 1; have hfz10_2 := blk_frozen BK201.out 2; obtain ⟨Ao11, co11, eo11⟩ := Kd.R_slice HO_4.out; subst eo11))
        go_loopg [6, 27] kj2 (fun kq v6 v27 w' => ∃ (x6_2 : List Int) (x27_2 : Int) (x202000_2 : Int) (x202001_2 : Int) (x202002_2 : Int), v27 = .int .i64 x27_2 ∧ Aside0 (polyptychlaw1_UtfdBack.l0 kq (wrap32 (Go.bits .and .i64 a0 2097151)) t198 x6_2 (t198.length : Int) x27_2 x202000_2 x202001_2 x202002_2 = some r) ∧ Aside0 (kq ≤ kj2) ∧ Aside0 (Kd.R (Kd.int .u8) 5 w' w.heap.size (fun _ => True) (.slice Ao11 t198.length co11) t198) ∧ Aside0 (Kd.R (Kd.int .i32) 21 w' w.heap.size (fun _ => True) v6 x6_2) ∧ Aside0 (w'.heap[gb201]? = some (.cells #[.int .i64 x202000_2, .int .i64 x202001_2, .int .i64 x202002_2] 25 (0, 0))) ∧ Aside0 (Below w.heap.size w w'))
        case atStart => exact ⟨(([] : List Int)), (0), (0), (0), (0), (by first | rfl | (simp; done) | (simp [*]; done)), H', ⟨Nat.le_refl _⟩, ⟨by (with_reducible repeat (first | apply Kd.R_alloc | apply Kd.R_drewN | apply Kd.R_drew | apply Kd.R_bytes)); exact Kd.R_mono (Kd.R_far (p := ⟨gb201, 2, none⟩) (Kd.R_far (p := ⟨gb201, 1, none⟩) (Kd.R_far (p := ⟨gb201, 0, none⟩) (Kd.R_types HO_4.out BK201.out (by decide)) (fun _ hk => hk.2) (.int .i64 0)) (fun _ hk => hk.2) (.int .i64 0)) (fun _ hk => hk.2) (.int .i64 0)) (fun _ hk => trivial)⟩, ⟨by first | exact Kd.R_nil _ _ _ _ _ | exact Kd.N_nil _ _ _ _ _ | exact Kd.V_nil _ _ _ _ _ | exact Kd.Q_nil _ _ _ _ _ | exact Kd.S_nil _ _ _ _ _⟩, ⟨by (with_reducible repeat (first | refine blk_drewN ?_ _ | refine blk_drew ?_ | refine blk_alloc ?_ _ | refine blk_bytes ?_ _ _)); refine blk_put (cs := #[.int .i64 0, .int .i64 0, .int .i64 0]) ?_ 2 _ rfl; (with_reducible repeat (first | refine blk_drewN ?_ _ | refine blk_drew ?_ | refine blk_alloc ?_ _ | refine blk_bytes ?_ _ _)); refine blk_put (cs := #[.int .i64 0, .int .i64 0, .int .i64 0]) ?_ 1 _ rfl; (with_reducible repeat (first | refine blk_drewN ?_ _ | refine blk_drew ?_ | refine blk_alloc ?_ _ | refine blk_bytes ?_ _ _)); refine blk_put (cs := #[.int .i64 0, .int .i64 0, .int .i64 0]) ?_ 0 _ rfl; (with_reducible repeat (first | refine blk_drewN ?_ _ | refine blk_drew ?_ | refine blk_alloc ?_ _ | refine blk_bytes ?_ _ _)); exact BK201.out⟩, ⟨by repeat (first | (with_reducible first | exact HB.out | apply below_alloc | apply pw_below_drewN | apply below_drew1 | apply below_bytes | refine below_set ?_ GE201.out) | exact HB.out)⟩⟩
        case round =>
          clear H'
          try clear c1
          try clear p2
          try clear p3
          try clear c5
          try clear c5b0
          try clear c5b1
          try clear c6
          try clear c8
          try clear hcz10_0
          try clear hcz10_1
          try clear hcz10_2
          try clear hfz10_0
          try clear hfz10_1
          try clear hfz10_2
          try clear p2
          try clear p3
          obtain ⟨x6_2, x27_2, x202000_2, x202001_2, x202002_2, rfl, HA, HK2, HO_4, HO_6, BK201, HB⟩ := hrel
          cases gk with
          | zero => exact absurd HA.out (by simp [polyptychlaw1_UtfdBack.l0])
          | succ k2 =>
            have H := HA.out
            clear HA
            simp only [polyptychlaw1_UtfdBack.l0] at H
            by_cases c12 : x27_2 < (t198.length : Int)
            · rw [if_pos c12] at H
              have c12b0 : decide (x27_2 < (t198.length : Int)) = true := decide_eq_true c12
              clear c12
              by_cases c13 : x27_2 = (wrap64 ((t198.length : Int) - 1))
              · rw [if_pos c13] at H
                have c13b0 : (x27_2 == (wrap64 ((t198.length : Int) - 1))) = true := beq_iff_eq.mpr c13
                have c13b1 : (x27_2 != (wrap64 ((t198.length : Int) - 1))) = false := bne_eq_false_iff_eq.mpr c13
                clear c13
                by_cases c14 : (x6_2.length : Int) > 0
                · rw [if_pos c14] at H
                  have c14b0 : decide (0 < (x6_2.length : Int)) = true := decide_eq_true c14
                  have c14b1 : decide (0 < x6_2.length) = true := decide_eq_true (by omega)
                  clear c14
                  exact absurd ((Option.some.inj H).trans hT_.out) (by decide)
                · rw [if_neg c14] at H
                  have c14b0 : decide (0 < (x6_2.length : Int)) = false := decide_eq_false c14
                  have c14b1 : decide (0 < x6_2.length) = false := decide_eq_false (by omega)
                  clear c14
                  replace H := Option.bind_eq_some_iff.mp H
                  obtain ⟨t210, A150, H⟩ := H
                  replace H : (if (t210.length : Int) = (mn x27_2 1) then (if 0 ≤ x27_2 then (if x27_2 < (t198.length : Int) then ((utfd_Step.f k2 x202000_2 x202001_2 x202002_2 (rd t198 x27_2)).bind fun bt214 => (if x6_2.length + bt214.2.2.2.length < 35184372088832 then (polyptychlaw1_UtfdBack.l0 k2 (wrap32 (Go.bits .and .i64 a0 2097151)) t198 (x6_2 ++ bt214.2.2.2) (t198.length : Int) (wrap64 (x27_2 + 1)) bt214.1 bt214.2.1 bt214.2.2.1) else (none))) else (none)) else (none)) else (some false)) = some r := H
                  have A15 := Aside0.mk A150
                  clear A150
                  obtain ⟨ji16, hji16⟩ : ∃ j_ : Int, (mn x27_2 1) = j_ := ⟨_, rfl⟩
                  replace H : (if (t210.length : Int) = (ji16) then (if 0 ≤ x27_2 then (if x27_2 < (t198.length : Int) then ((utfd_Step.f k2 x202000_2 x202001_2 x202002_2 (rd t198 x27_2)).bind fun bt214 => (if x6_2.length + bt214.2.2.2.length < 35184372088832 then (polyptychlaw1_UtfdBack.l0 k2 (wrap32 (Go.bits .and .i64 a0 2097151)) t198 (x6_2 ++ bt214.2.2.2) (t198.length : Int) (wrap64 (x27_2 + 1)) bt214.1 bt214.2.1 bt214.2.2.1) else (none))) else (none)) else (none)) else (some false)) = some r := by first | (rw [hji16] at H; exact H) | (simp only [hji16] at H ⊢; exact H)
                  (try rw [hji16] at A15)
                  have hji16_ : (if 1 < x27_2 then 1 else x27_2) = ji16 := hji16
                  by_cases c17 : (t210.length : Int) = (ji16)
                  · rw [if_pos c17] at H
                    have c17b0 : ((t210.length : Int) == (ji16)) = true := beq_iff_eq.mpr c17
                    have c17b1 : ((t210.length : Int) != (ji16)) = false := bne_eq_false_iff_eq.mpr c17
                    clear c17
                    by_cases c18 : 0 ≤ x27_2
                    · rw [if_pos c18] at H
                      have c18b0 : decide (0 ≤ x27_2) = true := decide_eq_true c18
                      clear c18
                      by_cases c19 : x27_2 < (t198.length : Int)
                      · rw [if_pos c19] at H
                        have c19b0 : decide (x27_2 < (t198.length : Int)) = true := decide_eq_true c19
                        clear c19
                        replace H := Option.bind_eq_some_iff.mp H
                        obtain ⟨⟨t214, t215, t216, t217⟩, A200, H⟩ := H
                        replace H : (if x6_2.length + t217.length < 35184372088832 then (polyptychlaw1_UtfdBack.l0 k2 (wrap32 (Go.bits .and .i64 a0 2097151)) t198 (x6_2 ++ t217) (t198.length : Int) (wrap64 (x27_2 + 1)) t214 t215 t216) else (none)) = some r := H
                        have A20 := Aside0.mk A200
                        clear A200
                        by_cases c21 : x6_2.length + t217.length < 35184372088832
                        · rw [if_pos c21] at H
                          have LMc21 := Aside0.mk c21
                          clear c21
                          obtain ⟨y221, hy221⟩ : ∃ y_ : List Int, y_ = (x6_2 ++ t217) := ⟨_, rfl⟩
                          replace H : (polyptychlaw1_UtfdBack.l0 k2 (wrap32 (Go.bits .and .i64 a0 2097151)) t198 y221 (t198.length : Int) (wrap64 (x27_2 + 1)) t214 t215 t216) = some r := by first | (rw [hy221]; with_reducible exact H) | (have H2_ := (Option.bind_some _ _).symm.trans H; rw [hy221]; with_reducible exact H2_) | (have H2_ := (Option.bind_some _ _).symm.trans H; with_reducible exact H2_) | with_reducible exact H | (rw [hy221]; exact H) | exact H
                          have Ny221 := Aside0.mk hy221
                          clear hy221
                          have H' := Aside0.mk H
                          clear H
                          obtain ⟨Ao22, co22, eo22⟩ := Kd.R_slice HO_6.out
                          subst eo22
                          have hcz23_0 : wr.cell? ⟨gb201, 0, none⟩ = some (.int .i64 x202000_2) := (blk_cell BK201.out 0).trans rfl
                          have hcz23_1 : wr.cell? ⟨gb201, 1, none⟩ = some (.int .i64 x202001_2) := (blk_cell BK201.out 1).trans rfl
                          have hcz23_2 : wr.cell? ⟨gb201, 2, none⟩ = some (.int .i64 x202002_2) := (blk_cell BK201.out 2).trans rfl
                          have hfz23_0 := blk_frozen BK201.out 0
                          have hfz23_1 := blk_frozen BK201.out 1
                          have hfz23_2 := blk_frozen BK201.out 2
                          try go_wp2_with (first | (go_at_call 8; (with_reducible refine (utfd_End.calls x202000_2 x202001_2 x202002_2 t210 _ A15.out).mono ?_); rintro e w24 ⟨v211, rfl, ho0, hb⟩; have n0_ := Aside0.mk (Kd.R_below (by (with_reducible repeat (first | apply Kd.R_alloc | apply Kd.R_drewN | apply Kd.R_drew | apply Kd.R_bytes)); exact HO_4.out) hb); have n1_ := Aside0.mk (Kd.R_elder' (by (with_reducible repeat (first | apply Kd.R_alloc | apply Kd.R_drewN | apply Kd.R_drew | apply Kd.R_bytes)); exact HO_6.out) (Kd.R_base ho0) hb); have n2_ := Aside0.mk (Kd.R_lower (Kd.R_new' ho0 (Kd.R_lt (by (with_reducible repeat (first | apply Kd.R_alloc | apply Kd.R_drewN | apply Kd.R_drew | apply Kd.R_bytes)); exact HO_6.out))) (below_size (by repeat (first | (with_reducible first | exact HB.out | apply below_alloc | apply pw_below_drewN | apply below_drew1 | apply below_bytes | refine below_set ?_ GE201.out) | exact HB.out)))); have n3_ := Aside0.mk (blk_below (g := gb201) (o := .cells #[.int .i64 x202000_2, .int .i64 x202001_2, .int .i64 x202002_2] 25 (0, 0)) (by (with_reducible repeat (first | refine blk_drewN ?_ _ | refine blk_drew ?_ | refine blk_alloc ?_ _ | refine blk_bytes ?_ _ _)); exact BK201.out) hb); have n4_ := Aside0.mk (below_step (by repeat (first | (with_reducible first | exact HB.out | apply below_alloc | apply pw_below_drewN | apply below_drew1 | apply below_bytes | refine below_set ?_ GE201.out) | exact HB.out)) hb); clear HO_4; clear HO_6; clear BK201; clear HB; have HO_4 := n0_; have HO_6 := n1_; have HO212 := n2_; have BK201 := n3_; have HB := n4_; clear n0_ n1_ n2_ n3_ n4_; (try clear hb); (try clear hb2); (try clear hk); (try clear hi); (try clear ho0); obtain ⟨Ao25, co25, eo25⟩ := Kd.R_slice HO212.out; subst eo25))
                          have n0_ := Aside0.mk (Kd.R_drew HO_4.out)
                          have n1_ := Aside0.mk (Kd.R_drew HO_6.out)
                          have n2_ := Aside0.mk (Kd.R_drew HO212.out)
                          have n3_ := Aside0.mk (blk_drew BK201.out)
                          have n4_ := Aside0.mk (below_drew1 HB.out)
                          clear HO_4
                          clear HO_6
                          clear HO212
                          clear BK201
                          clear HB
                          have HO_4 := n0_
                          have HO_6 := n1_
                          have HO212 := n2_
                          have BK201 := n3_
                          have HB := n4_
                          clear n0_ n1_ n2_ n3_ n4_
                          have p213 : 0 ≤ (x27_2 : Int) := of_decide_eq_true (by first | (with_reducible assumption) | assumption)
                          have q213 : x27_2 < (t198.length : Int) := of_decide_eq_true (by first | (with_reducible assumption) | assumption)
                          obtain ⟨ad213, e213, hx213_0⟩ := Kd.at_int (Kd.R_reads' HO_4.out).2.2 x27_2 p213 q213
                          cases e213
                          replace p213 := eq_true p213
                          replace q213 := eq_true q213
                          refine start_ (n := 12) (S := fun w' => w'.cell? ⟨gb201, 0, none⟩ = some (.int .i64 x202000_2) ∧ w'.cell? ⟨gb201, 1, none⟩ = some (.int .i64 x202001_2) ∧ w'.cell? ⟨gb201, 2, none⟩ = some (.int .i64 x202002_2) ∧ w'.cell? (ad213.add (x27_2).toNat) = some (.int .u8 (rd t198 x27_2))) (ds := []) #[false, false, false, false, false, false, false, false, false, false, false, false] (by kernel_rfl) rfl rfl ⟨(blk_cell BK201.out 0).trans rfl, (blk_cell BK201.out 1).trans rfl, (blk_cell BK201.out 2).trans rfl, hx213_0⟩ (fun hHeld => ?_); refine with_tabW polyptychlaw1_UtfdBack.tab12 polyptychlaw1_UtfdBack.bits12 (fun HT_ HW_ => ?_)
                          generalize w24.drew = w26 at HO_4 HO_6 HO212 BK201 HB hx213_0 hHeld ⊢
                          refine pure_ (i := 1) (N := some 50) (v := ?_) (a' := ?_) #[false, true, false, false, false, false, false, false, false, false, false, false] rfl rfl (any_of HT_.out (by kernel_rfl)) (fun _ _ _ h => h) (Or.inl ⟨by rfl, ?_⟩) ?_ ?_
                          rotate_left
                          · intro w'
                            go_simp
                            with_reducible rfl
                          rotate_left
                          · simp only [Act.put, List.setIfInBounds_toArray, List.set_cons_zero, List.set_cons_succ, i64_w, i32_w]
                            rfl
                          refine pure_ (i := 2) (N := some 51) (v := ?_) (a' := ?_) #[false, true, true, false, false, false, false, false, false, false, false, false] rfl rfl (any_of HT_.out (by kernel_rfl)) (fun _ _ _ h => h) (Or.inl ⟨by rfl, ?_⟩) ?_ ?_
                          rotate_left
                          · intro w'
                            go_simp
                            with_reducible rfl
                          rotate_left
                          · simp only [Act.put, List.setIfInBounds_toArray, List.set_cons_zero, List.set_cons_succ, i64_w, i32_w]
                            rfl
                          refine pure_ (i := 3) (N := some 52) (v := ?_) (a' := ?_) #[false, true, true, true, false, false, false, false, false, false, false, false] rfl rfl (any_of HT_.out (by kernel_rfl)) (fun _ _ _ h => h) (Or.inl ⟨by rfl, ?_⟩) ?_ ?_
                          rotate_left
                          · intro w'
                            go_simp
                            with_reducible rfl
                          rotate_left
                          · simp only [Act.put, List.setIfInBounds_toArray, List.set_cons_zero, List.set_cons_succ, i64_w, i32_w]
                            rfl
                          refine take_ (i := 0) (N := some 49) (v := ?_) (a' := ?_) #[true, true, true, true, false, false, false, false, false, false, false, false] rfl rfl (take_ofW HT_.out HW_.out (by kernel_rfl)) (fun _ _ _ h => h) (Or.inl ⟨by rfl, ?_⟩) hHeld ?_ ?_
                          rotate_left
                          · rintro w' ⟨s0, s1, s2, s3⟩
                            go_simp
                            with_reducible rfl
                          rotate_left
                          · simp only [Act.put, List.setIfInBounds_toArray, List.set_cons_zero, List.set_cons_succ, i64_w, i32_w]
                            rfl
                          refine take_ (i := 4) (N := some 53) (v := ?_) (a' := ?_) #[true, true, true, true, true, false, false, false, false, false, false, false] rfl rfl (take_ofW HT_.out HW_.out (by kernel_rfl)) (fun _ _ _ h => h) (Or.inl ⟨by rfl, ?_⟩) hHeld ?_ ?_
                          rotate_left
                          · rintro w' ⟨s0, s1, s2, s3⟩
                            go_simp
                            with_reducible rfl
                          rotate_left
                          · simp only [Act.put, List.setIfInBounds_toArray, List.set_cons_zero, List.set_cons_succ, i64_w, i32_w]
                            rfl
                          refine join_ (σ := Value × Nat) 2 #[true, true, true, true, true, true, true, true, true, true, false, false] (fun s_ => [(54, .tuple #[.agg #[.int .i64 t214, .int .i64 t215, .int .i64 t216], s_.1]), (8, .pointer (some ⟨s_.2, 0, none⟩)), (48, .tuple #[.agg #[.int .i64 t214, .int .i64 t215, .int .i64 t216], s_.1]), (55, .agg #[.int .i64 t214, .int .i64 t215, .int .i64 t216]), (56, s_.1)]) (fun s_ w' => (w'.cell? ⟨gb201, 0, none⟩ = some (.int .i64 x202000_2) ∧ w'.cell? ⟨gb201, 1, none⟩ = some (.int .i64 x202001_2) ∧ w'.cell? ⟨gb201, 2, none⟩ = some (.int .i64 x202002_2) ∧ w'.cell? (ad213.add (x27_2).toNat) = some (.int .u8 (rd t198 x27_2))) ∧ (Kd.R (Kd.int .i32) 21 w' w.heap.size (fun k_ => some k_ ≠ (s_.1 : Value).ownBlock ∧ some k_ ≠ (.slice Ao22 x6_2.length co22 : Value).ownBlock) (.slice Ao25 t210.length co25) t210) ∧ (Kd.R (Kd.int .i32) 21 w' w.heap.size (fun k_ => some k_ ≠ (.slice Ao25 t210.length co25 : Value).ownBlock ∧ some k_ ≠ (.slice Ao22 x6_2.length co22 : Value).ownBlock) s_.1 t217) ∧ (Kd.R (Kd.int .u8) 5 w' w.heap.size (fun _ => True) (.slice (some ad213) t198.length co11) t198) ∧ (Kd.R (Kd.int .i32) 21 w' w.heap.size (fun k_ => some k_ ≠ (.slice Ao25 t210.length co25 : Value).ownBlock ∧ some k_ ≠ (s_.1 : Value).ownBlock) (.slice Ao22 x6_2.length co22) x6_2) ∧ (w'.heap[gb201]? = some (.cells #[.int .i64 x202000_2, .int .i64 x202001_2, .int .i64 x202002_2] 25 (0, 0))) ∧ (w'.heap[s_.2]? = some (.cells #[.int .i64 0, .int .i64 0, .int .i64 0] 25 (0, 0))) ∧ (w.heap.size ≤ s_.2) ∧ (w.heap.size ≤ s_.2) ∧ (gb201 ≠ s_.2) ∧ (s_.2 ≠ gb201) ∧ (Below w.heap.size w w')) ?_ ?_
                          rotate_left
                          · intro hCont
                            refine two_ (i := 5) (j := 9) (Ni := some 54) (Nj := some 8) #[true, true, true, true, true, true, false, false, false, false, false, false] #[true, true, true, true, true, false, false, false, false, true, false, false] rfl rfl rfl rfl (two_of HT_.out (by kernel_rfl)) (by decide) (by decide) (fun K hK => ?_) (fun K hK => ?_)
                            · skip
                              refine goes_ Try.func7 (by kernel_rfl) rfl #[.agg #[.int .i64 x202000_2, .int .i64 x202001_2, .int .i64 x202002_2], .int .u8 (rd t198 x27_2)] (by rfl) rfl rfl (by (try simp only [List.map_toArray, List.map_cons, List.map_nil]); first | done | rfl | (simp only [List.length_drop, List.length_take]; rfl)) ?_
                              with_reducible refine (utfd_Step.calls k2 x202000_2 x202001_2 x202002_2 (rd t198 x27_2) t214 t215 t216 t217 _ A20.out).mono ?_
                              rintro e w27 ⟨v218, rfl, ho0, hb⟩
                              have HS3_ := (hb.cell (World.block_lt_of_cell? _ _ (hHeld.2.2.2))).trans (hHeld.2.2.2)
                              refine ⟨_, rfl, ?_⟩
                              have n0_ := Aside0.mk (Kd.R_below (by (with_reducible repeat (first | apply Kd.R_alloc | apply Kd.R_drewN | apply Kd.R_drew | apply Kd.R_bytes)); exact HO_4.out) hb)
                              have n1_ := Aside0.mk (Kd.R_elder' (by (with_reducible repeat (first | apply Kd.R_alloc | apply Kd.R_drewN | apply Kd.R_drew | apply Kd.R_bytes)); exact HO_6.out) (Kd.R_base ho0) hb)
                              have n2_ := Aside0.mk (Kd.R_elder' (by (with_reducible repeat (first | apply Kd.R_alloc | apply Kd.R_drewN | apply Kd.R_drew | apply Kd.R_bytes)); exact HO212.out) (Kd.R_base ho0) hb)
                              have n3_ := Aside0.mk (Kd.R_lower (Kd.R_new' (Kd.R_new' ho0 (Kd.R_lt (by (with_reducible repeat (first | apply Kd.R_alloc | apply Kd.R_drewN | apply Kd.R_drew | apply Kd.R_bytes)); exact HO_6.out))) (Kd.R_lt (by (with_reducible repeat (first | apply Kd.R_alloc | apply Kd.R_drewN | apply Kd.R_drew | apply Kd.R_bytes)); exact HO212.out))) (below_size (by repeat (first | (with_reducible first | exact HB.out | apply below_alloc | apply pw_below_drewN | apply below_drew1 | apply below_bytes | refine below_set ?_ GE201.out) | exact HB.out))))
                              have n4_ := Aside0.mk (blk_below (g := gb201) (o := .cells #[.int .i64 x202000_2, .int .i64 x202001_2, .int .i64 x202002_2] 25 (0, 0)) (by (with_reducible repeat (first | refine blk_drewN ?_ _ | refine blk_drew ?_ | refine blk_alloc ?_ _ | refine blk_bytes ?_ _ _)); exact BK201.out) hb)
                              have n5_ := Aside0.mk (below_step (by repeat (first | (with_reducible first | exact HB.out | apply below_alloc | apply pw_below_drewN | apply below_drew1 | apply below_bytes | refine below_set ?_ GE201.out) | exact HB.out)) hb)
                              clear HO_4
                              clear HO_6
                              clear HO212
                              clear BK201
                              clear HB
                              have HO_4 := n0_
                              have HO_6 := n1_
                              have HO212 := n2_
                              have HO219 := n3_
                              have BK201 := n4_
                              have HB := n5_
                              clear n0_ n1_ n2_ n3_ n4_ n5_
                              (try clear hb)
                              (try clear hb2)
                              (try clear hk)
                              (try clear hi)
                              (try clear ho0)
                              refine hK.out _ _ ⟨(blk_cell BK201.out 0).trans rfl, (blk_cell BK201.out 1).trans rfl, (blk_cell BK201.out 2).trans rfl, HS3_⟩ (fun hHeld => ?_)
                              clear hK K
                              refine norm_ (a' := ?_) ?_ ?_
                              rotate_left
                              · show Act.put _ (some 54) _ = _
                                simp only [Act.put, List.setIfInBounds_toArray, List.set_cons_zero, List.set_cons_succ, i64_w, i32_w]
                                rfl
                              refine pure_ (i := 6) (N := some 48) (v := ?_) (a' := ?_) #[true, true, true, true, true, true, true, false, false, false, false, false] rfl rfl (any_of HT_.out (by kernel_rfl)) (fun _ _ _ h => h) (Or.inl ⟨by rfl, ?_⟩) ?_ ?_
                              rotate_left
                              · intro w'
                                go_simp
                                with_reducible rfl
                              rotate_left
                              · simp only [Act.put, List.setIfInBounds_toArray, List.set_cons_zero, List.set_cons_succ, i64_w, i32_w]
                                rfl
                              refine pure_ (i := 7) (N := some 55) (v := ?_) (a' := ?_) #[true, true, true, true, true, true, true, true, false, false, false, false] rfl rfl (any_of HT_.out (by kernel_rfl)) (fun _ _ _ h => h) (Or.inl ⟨by rfl, ?_⟩) ?_ ?_
                              rotate_left
                              · intro w'
                                go_simp
                                with_reducible rfl
                              rotate_left
                              · simp only [Act.put, List.setIfInBounds_toArray, List.set_cons_zero, List.set_cons_succ, i64_w, i32_w]
                                rfl
                              refine pure_ (i := 8) (N := some 56) (v := ?_) (a' := ?_) #[true, true, true, true, true, true, true, true, true, false, false, false] rfl rfl (any_of HT_.out (by kernel_rfl)) (fun _ _ _ h => h) (Or.inl ⟨by rfl, ?_⟩) ?_ ?_
                              rotate_left
                              · intro w'
                                go_simp
                                with_reducible rfl
                              rotate_left
                              · simp only [Act.put, List.setIfInBounds_toArray, List.set_cons_zero, List.set_cons_succ, i64_w, i32_w]
                                rfl
                              refine one_ (i := 9) (N := some 8) #[true, true, true, true, true, true, true, true, true, true, false, false] rfl rfl (one_of HT_.out (by kernel_rfl)) (by decide) (fun K hK => ?_)
                              refine box_step ?hg (N := 8) ?hd (cs := #[.int .i64 0, .int .i64 0, .int .i64 0]) (t := 25) ?hr ?_; (case hd => rfl); (case hg => rfl); (case hr => first | (go_simp; done) | (go_simp; rfl))
                              intro gb220 hg w28 hbox hb
                              have HS3_ := (hb.cell (World.block_lt_of_cell? _ _ (hHeld.2.2.2))).trans (hHeld.2.2.2)
                              have n0_ := Aside0.mk (Kd.R_below (by (with_reducible repeat (first | apply Kd.R_alloc | apply Kd.R_drewN | apply Kd.R_drew | apply Kd.R_bytes)); exact HO_4.out) hb)
                              have n1_ := Aside0.mk (Kd.R_below (by (with_reducible repeat (first | apply Kd.R_alloc | apply Kd.R_drewN | apply Kd.R_drew | apply Kd.R_bytes)); exact HO_6.out) hb)
                              have n2_ := Aside0.mk (Kd.R_below (by (with_reducible repeat (first | apply Kd.R_alloc | apply Kd.R_drewN | apply Kd.R_drew | apply Kd.R_bytes)); exact HO212.out) hb)
                              have n3_ := Aside0.mk (Kd.R_below (by (with_reducible repeat (first | apply Kd.R_alloc | apply Kd.R_drewN | apply Kd.R_drew | apply Kd.R_bytes)); exact HO219.out) hb)
                              have n4_ := Aside0.mk (blk_below (g := gb201) (o := .cells #[.int .i64 x202000_2, .int .i64 x202001_2, .int .i64 x202002_2] 25 (0, 0)) (by (with_reducible repeat (first | refine blk_drewN ?_ _ | refine blk_drew ?_ | refine blk_alloc ?_ _ | refine blk_bytes ?_ _ _)); exact BK201.out) hb)
                              have n5_ := Aside0.mk (below_step (by repeat (first | (with_reducible first | exact HB.out | apply below_alloc | apply pw_below_drewN | apply below_drew1 | apply below_bytes | refine below_set ?_ GE201.out) | exact HB.out)) hb)
                              have n6_ := Aside0.mk (hbox)
                              have n7_ := Aside0.mk ((by rw [hg]; exact (below_size (by repeat (first | (with_reducible first | exact HB.out | apply below_alloc | apply pw_below_drewN | apply below_drew1 | apply below_bytes | refine below_set ?_ GE201.out) | exact HB.out))) : w.heap.size ≤ gb220))
                              have n8_ := Aside0.mk ((by rw [hg]; exact (below_size (by repeat (first | (with_reducible first | exact HB.out | apply below_alloc | apply pw_below_drewN | apply below_drew1 | apply below_bytes | refine below_set ?_ GE201.out) | exact HB.out))) : w.heap.size ≤ gb220))
                              have n9_ := Aside0.mk ((by rw [hg]; exact Nat.ne_of_lt (blk_lt (g := gb201) (o := .cells #[.int .i64 x202000_2, .int .i64 x202001_2, .int .i64 x202002_2] 25 (0, 0)) (by (with_reducible repeat (first | refine blk_drewN ?_ _ | refine blk_drew ?_ | refine blk_alloc ?_ _ | refine blk_bytes ?_ _ _)); exact BK201.out)) : gb201 ≠ gb220))
                              have n10_ := Aside0.mk ((by rw [hg]; exact Nat.ne_of_gt (blk_lt (g := gb201) (o := .cells #[.int .i64 x202000_2, .int .i64 x202001_2, .int .i64 x202002_2] 25 (0, 0)) (by (with_reducible repeat (first | refine blk_drewN ?_ _ | refine blk_drew ?_ | refine blk_alloc ?_ _ | refine blk_bytes ?_ _ _)); exact BK201.out)) : gb220 ≠ gb201))
                              clear HO_4
                              clear HO_6
                              clear HO212
                              clear HO219
                              clear BK201
                              clear HB
                              have HO_4 := n0_
                              have HO_6 := n1_
                              have HO212 := n2_
                              have HO219 := n3_
                              have BK201 := n4_
                              have HB := n5_
                              have BK220 := n6_
                              have GW220 := n7_
                              have GE220 := n8_
                              have NB201_220 := n9_
                              have NB220_201 := n10_
                              clear n0_ n1_ n2_ n3_ n4_ n5_ n6_ n7_ n8_ n9_ n10_
                              clear hb hbox hg
                              refine hK.out _ _ ⟨(blk_cell BK201.out 0).trans rfl, (blk_cell BK201.out 1).trans rfl, (blk_cell BK201.out 2).trans rfl, HS3_⟩ (fun hHeld => ?_)
                              clear hK K
                              refine norm_ (a' := ?_) ?_ ?_
                              rotate_left
                              · show Act.put _ (some 8) _ = _
                                simp only [Act.put, List.setIfInBounds_toArray, List.set_cons_zero, List.set_cons_succ, i64_w, i32_w]
                                rfl
                              exact norm_ (by simp only [putAll, Act.put, List.setIfInBounds_toArray, List.set_cons_zero, List.set_cons_succ]) (hCont (v218, gb220) _ ⟨hHeld, (by (with_reducible repeat (first | apply Kd.R_alloc | apply Kd.R_drewN | apply Kd.R_drew | apply Kd.R_bytes)); exact Kd.R_mono HO212.out (fun _ hk => ⟨hk.2, hk.1.2⟩)), (by (with_reducible repeat (first | apply Kd.R_alloc | apply Kd.R_drewN | apply Kd.R_drew | apply Kd.R_bytes)); exact Kd.R_mono HO219.out (fun _ hk => ⟨hk.2, hk.1.2⟩)), (by (with_reducible repeat (first | apply Kd.R_alloc | apply Kd.R_drewN | apply Kd.R_drew | apply Kd.R_bytes)); exact HO_4.out), (by (with_reducible repeat (first | apply Kd.R_alloc | apply Kd.R_drewN | apply Kd.R_drew | apply Kd.R_bytes)); exact Kd.R_mono HO_6.out (fun _ hk => ⟨hk.1.2, hk.2⟩)), (by (with_reducible repeat (first | refine blk_drewN ?_ _ | refine blk_drew ?_ | refine blk_alloc ?_ _ | refine blk_bytes ?_ _ _)); exact BK201.out), (by (with_reducible repeat (first | refine blk_drewN ?_ _ | refine blk_drew ?_ | refine blk_alloc ?_ _ | refine blk_bytes ?_ _ _)); exact BK220.out), GW220.out, GE220.out, NB201_220.out, NB220_201.out, (by repeat (first | (with_reducible first | exact HB.out | apply below_alloc | apply pw_below_drewN | apply below_drew1 | apply below_bytes | refine below_set ?_ GE201.out | refine below_set ?_ GE220.out) | exact HB.out))⟩)
                            · skip
                              refine box_step ?hg (N := 8) ?hd (cs := #[.int .i64 0, .int .i64 0, .int .i64 0]) (t := 25) ?hr ?_; (case hd => rfl); (case hg => rfl); (case hr => first | (go_simp; done) | (go_simp; rfl))
                              intro gb220 hg w27 hbox hb
                              have HS3_ := (hb.cell (World.block_lt_of_cell? _ _ (hHeld.2.2.2))).trans (hHeld.2.2.2)
                              have n0_ := Aside0.mk (Kd.R_below (by (with_reducible repeat (first | apply Kd.R_alloc | apply Kd.R_drewN | apply Kd.R_drew | apply Kd.R_bytes)); exact HO_4.out) hb)
                              have n1_ := Aside0.mk (Kd.R_below (by (with_reducible repeat (first | apply Kd.R_alloc | apply Kd.R_drewN | apply Kd.R_drew | apply Kd.R_bytes)); exact HO_6.out) hb)
                              have n2_ := Aside0.mk (Kd.R_below (by (with_reducible repeat (first | apply Kd.R_alloc | apply Kd.R_drewN | apply Kd.R_drew | apply Kd.R_bytes)); exact HO212.out) hb)
                              have n3_ := Aside0.mk (blk_below (g := gb201) (o := .cells #[.int .i64 x202000_2, .int .i64 x202001_2, .int .i64 x202002_2] 25 (0, 0)) (by (with_reducible repeat (first | refine blk_drewN ?_ _ | refine blk_drew ?_ | refine blk_alloc ?_ _ | refine blk_bytes ?_ _ _)); exact BK201.out) hb)
                              have n4_ := Aside0.mk (below_step (by repeat (first | (with_reducible first | exact HB.out | apply below_alloc | apply pw_below_drewN | apply below_drew1 | apply below_bytes | refine below_set ?_ GE201.out) | exact HB.out)) hb)
                              have n5_ := Aside0.mk (hbox)
                              have n6_ := Aside0.mk ((by rw [hg]; exact (below_size (by repeat (first | (with_reducible first | exact HB.out | apply below_alloc | apply pw_below_drewN | apply below_drew1 | apply below_bytes | refine below_set ?_ GE201.out) | exact HB.out))) : w.heap.size ≤ gb220))
                              have n7_ := Aside0.mk ((by rw [hg]; exact (below_size (by repeat (first | (with_reducible first | exact HB.out | apply below_alloc | apply pw_below_drewN | apply below_drew1 | apply below_bytes | refine below_set ?_ GE201.out) | exact HB.out))) : w.heap.size ≤ gb220))
                              have n8_ := Aside0.mk ((by rw [hg]; exact Nat.ne_of_lt (blk_lt (g := gb201) (o := .cells #[.int .i64 x202000_2, .int .i64 x202001_2, .int .i64 x202002_2] 25 (0, 0)) (by (with_reducible repeat (first | refine blk_drewN ?_ _ | refine blk_drew ?_ | refine blk_alloc ?_ _ | refine blk_bytes ?_ _ _)); exact BK201.out)) : gb201 ≠ gb220))
                              have n9_ := Aside0.mk ((by rw [hg]; exact Nat.ne_of_gt (blk_lt (g := gb201) (o := .cells #[.int .i64 x202000_2, .int .i64 x202001_2, .int .i64 x202002_2] 25 (0, 0)) (by (with_reducible repeat (first | refine blk_drewN ?_ _ | refine blk_drew ?_ | refine blk_alloc ?_ _ | refine blk_bytes ?_ _ _)); exact BK201.out)) : gb220 ≠ gb201))
                              clear HO_4
                              clear HO_6
                              clear HO212
                              clear BK201
                              clear HB
                              have HO_4 := n0_
                              have HO_6 := n1_
                              have HO212 := n2_
                              have BK201 := n3_
                              have HB := n4_
                              have BK220 := n5_
                              have GW220 := n6_
                              have GE220 := n7_
                              have NB201_220 := n8_
                              have NB220_201 := n9_
                              clear n0_ n1_ n2_ n3_ n4_ n5_ n6_ n7_ n8_ n9_
                              clear hb hbox hg
                              refine hK.out _ _ ⟨(blk_cell BK201.out 0).trans rfl, (blk_cell BK201.out 1).trans rfl, (blk_cell BK201.out 2).trans rfl, HS3_⟩ (fun hHeld => ?_)
                              clear hK K
                              refine norm_ (a' := ?_) ?_ ?_
                              rotate_left
                              · show Act.put _ (some 8) _ = _
                                simp only [Act.put, List.setIfInBounds_toArray, List.set_cons_zero, List.set_cons_succ, i64_w, i32_w]
                                rfl
                              refine one_ (i := 5) (N := some 54) #[true, true, true, true, true, true, false, false, false, true, false, false] rfl rfl (one_of HT_.out (by kernel_rfl)) (by decide) (fun K hK => ?_)
                              refine goes_ Try.func7 (by kernel_rfl) rfl #[.agg #[.int .i64 x202000_2, .int .i64 x202001_2, .int .i64 x202002_2], .int .u8 (rd t198 x27_2)] (by rfl) rfl rfl (by (try simp only [List.map_toArray, List.map_cons, List.map_nil]); first | done | rfl | (simp only [List.length_drop, List.length_take]; rfl)) ?_
                              with_reducible refine (utfd_Step.calls k2 x202000_2 x202001_2 x202002_2 (rd t198 x27_2) t214 t215 t216 t217 _ A20.out).mono ?_
                              rintro e w28 ⟨v218, rfl, ho0, hb⟩
                              have HS3_ := (hb.cell (World.block_lt_of_cell? _ _ (hHeld.2.2.2))).trans (hHeld.2.2.2)
                              refine ⟨_, rfl, ?_⟩
                              have n0_ := Aside0.mk (Kd.R_below (by (with_reducible repeat (first | apply Kd.R_alloc | apply Kd.R_drewN | apply Kd.R_drew | apply Kd.R_bytes)); exact HO_4.out) hb)
                              have n1_ := Aside0.mk (Kd.R_elder' (by (with_reducible repeat (first | apply Kd.R_alloc | apply Kd.R_drewN | apply Kd.R_drew | apply Kd.R_bytes)); exact HO_6.out) (Kd.R_base ho0) hb)
                              have n2_ := Aside0.mk (Kd.R_elder' (by (with_reducible repeat (first | apply Kd.R_alloc | apply Kd.R_drewN | apply Kd.R_drew | apply Kd.R_bytes)); exact HO212.out) (Kd.R_base ho0) hb)
                              have n3_ := Aside0.mk (Kd.R_lower (Kd.R_new' (Kd.R_new' ho0 (Kd.R_lt (by (with_reducible repeat (first | apply Kd.R_alloc | apply Kd.R_drewN | apply Kd.R_drew | apply Kd.R_bytes)); exact HO_6.out))) (Kd.R_lt (by (with_reducible repeat (first | apply Kd.R_alloc | apply Kd.R_drewN | apply Kd.R_drew | apply Kd.R_bytes)); exact HO212.out))) (below_size (by repeat (first | (with_reducible first | exact HB.out | apply below_alloc | apply pw_below_drewN | apply below_drew1 | apply below_bytes | refine below_set ?_ GE201.out | refine below_set ?_ GE220.out) | exact HB.out))))
                              have n4_ := Aside0.mk (blk_below (g := gb201) (o := .cells #[.int .i64 x202000_2, .int .i64 x202001_2, .int .i64 x202002_2] 25 (0, 0)) (by (with_reducible repeat (first | refine blk_drewN ?_ _ | refine blk_drew ?_ | refine blk_alloc ?_ _ | refine blk_bytes ?_ _ _)); exact BK201.out) hb)
                              have n5_ := Aside0.mk (blk_below (g := gb220) (o := .cells #[.int .i64 0, .int .i64 0, .int .i64 0] 25 (0, 0)) (by (with_reducible repeat (first | refine blk_drewN ?_ _ | refine blk_drew ?_ | refine blk_alloc ?_ _ | refine blk_bytes ?_ _ _)); exact BK220.out) hb)
                              have n6_ := Aside0.mk (below_step (by repeat (first | (with_reducible first | exact HB.out | apply below_alloc | apply pw_below_drewN | apply below_drew1 | apply below_bytes | refine below_set ?_ GE201.out | refine below_set ?_ GE220.out) | exact HB.out)) hb)
                              clear HO_4
                              clear HO_6
                              clear HO212
                              clear BK201
                              clear BK220
                              clear HB
                              have HO_4 := n0_
                              have HO_6 := n1_
                              have HO212 := n2_
                              have HO219 := n3_
                              have BK201 := n4_
                              have BK220 := n5_
                              have HB := n6_
                              clear n0_ n1_ n2_ n3_ n4_ n5_ n6_
                              (try clear hb)
                              (try clear hb2)
                              (try clear hk)
                              (try clear hi)
                              (try clear ho0)
                              refine hK.out _ _ ⟨(blk_cell BK201.out 0).trans rfl, (blk_cell BK201.out 1).trans rfl, (blk_cell BK201.out 2).trans rfl, HS3_⟩ (fun hHeld => ?_)
                              clear hK K
                              refine norm_ (a' := ?_) ?_ ?_
                              rotate_left
                              · show Act.put _ (some 54) _ = _
                                simp only [Act.put, List.setIfInBounds_toArray, List.set_cons_zero, List.set_cons_succ, i64_w, i32_w]
                                rfl
                              refine pure_ (i := 6) (N := some 48) (v := ?_) (a' := ?_) #[true, true, true, true, true, true, true, false, false, true, false, false] rfl rfl (any_of HT_.out (by kernel_rfl)) (fun _ _ _ h => h) (Or.inl ⟨by rfl, ?_⟩) ?_ ?_
                              rotate_left
                              · intro w'
                                go_simp
                                with_reducible rfl
                              rotate_left
                              · simp only [Act.put, List.setIfInBounds_toArray, List.set_cons_zero, List.set_cons_succ, i64_w, i32_w]
                                rfl
                              refine pure_ (i := 7) (N := some 55) (v := ?_) (a' := ?_) #[true, true, true, true, true, true, true, true, false, true, false, false] rfl rfl (any_of HT_.out (by kernel_rfl)) (fun _ _ _ h => h) (Or.inl ⟨by rfl, ?_⟩) ?_ ?_
                              rotate_left
                              · intro w'
                                go_simp
                                with_reducible rfl
                              rotate_left
                              · simp only [Act.put, List.setIfInBounds_toArray, List.set_cons_zero, List.set_cons_succ, i64_w, i32_w]
                                rfl
                              refine pure_ (i := 8) (N := some 56) (v := ?_) (a' := ?_) #[true, true, true, true, true, true, true, true, true, true, false, false] rfl rfl (any_of HT_.out (by kernel_rfl)) (fun _ _ _ h => h) (Or.inl ⟨by rfl, ?_⟩) ?_ ?_
                              rotate_left
                              · intro w'
                                go_simp
                                with_reducible rfl
                              rotate_left
                              · simp only [Act.put, List.setIfInBounds_toArray, List.set_cons_zero, List.set_cons_succ, i64_w, i32_w]
                                rfl
                              exact norm_ (by simp only [putAll, Act.put, List.setIfInBounds_toArray, List.set_cons_zero, List.set_cons_succ]) (hCont (v218, gb220) _ ⟨hHeld, (by (with_reducible repeat (first | apply Kd.R_alloc | apply Kd.R_drewN | apply Kd.R_drew | apply Kd.R_bytes)); exact Kd.R_mono HO212.out (fun _ hk => ⟨hk.2, hk.1.2⟩)), (by (with_reducible repeat (first | apply Kd.R_alloc | apply Kd.R_drewN | apply Kd.R_drew | apply Kd.R_bytes)); exact Kd.R_mono HO219.out (fun _ hk => ⟨hk.2, hk.1.2⟩)), (by (with_reducible repeat (first | apply Kd.R_alloc | apply Kd.R_drewN | apply Kd.R_drew | apply Kd.R_bytes)); exact HO_4.out), (by (with_reducible repeat (first | apply Kd.R_alloc | apply Kd.R_drewN | apply Kd.R_drew | apply Kd.R_bytes)); exact Kd.R_mono HO_6.out (fun _ hk => ⟨hk.1.2, hk.2⟩)), (by (with_reducible repeat (first | refine blk_drewN ?_ _ | refine blk_drew ?_ | refine blk_alloc ?_ _ | refine blk_bytes ?_ _ _)); exact BK201.out), (by (with_reducible repeat (first | refine blk_drewN ?_ _ | refine blk_drew ?_ | refine blk_alloc ?_ _ | refine blk_bytes ?_ _ _)); exact BK220.out), GW220.out, GE220.out, NB201_220.out, NB220_201.out, (by repeat (first | (with_reducible first | exact HB.out | apply below_alloc | apply pw_below_drewN | apply below_drew1 | apply below_bytes | refine below_set ?_ GE201.out | refine below_set ?_ GE220.out) | exact HB.out))⟩)
                          rintro ⟨v218, gb220⟩ w29 ⟨hS_, h0_, h1_, h2_, h3_, h4_, h5_, h6_, h7_, h8_, h9_, h10_⟩
                          have n0_ : Aside0 (Kd.R (Kd.int .i32) 21 w29 w.heap.size (fun k_ => some k_ ≠ (v218 : Value).ownBlock ∧ some k_ ≠ (.slice Ao22 x6_2.length co22 : Value).ownBlock) (.slice Ao25 t210.length co25) t210) := ⟨h0_⟩
                          have n1_ : Aside0 (Kd.R (Kd.int .i32) 21 w29 w.heap.size (fun k_ => some k_ ≠ (.slice Ao25 t210.length co25 : Value).ownBlock ∧ some k_ ≠ (.slice Ao22 x6_2.length co22 : Value).ownBlock) v218 t217) := ⟨h1_⟩
                          have n2_ : Aside0 (Kd.R (Kd.int .u8) 5 w29 w.heap.size (fun _ => True) (.slice (some ad213) t198.length co11) t198) := ⟨h2_⟩
                          have n3_ : Aside0 (Kd.R (Kd.int .i32) 21 w29 w.heap.size (fun k_ => some k_ ≠ (.slice Ao25 t210.length co25 : Value).ownBlock ∧ some k_ ≠ (v218 : Value).ownBlock) (.slice Ao22 x6_2.length co22) x6_2) := ⟨h3_⟩
                          have n4_ : Aside0 (w29.heap[gb201]? = some (.cells #[.int .i64 x202000_2, .int .i64 x202001_2, .int .i64 x202002_2] 25 (0, 0))) := ⟨h4_⟩
                          have n5_ : Aside0 (w29.heap[gb220]? = some (.cells #[.int .i64 0, .int .i64 0, .int .i64 0] 25 (0, 0))) := ⟨h5_⟩
                          have n6_ : Aside0 (w.heap.size ≤ gb220) := ⟨h6_⟩
                          have n7_ : Aside0 (w.heap.size ≤ gb220) := ⟨h7_⟩
                          have n8_ : Aside0 (gb201 ≠ gb220) := ⟨h8_⟩
                          have n9_ : Aside0 (gb220 ≠ gb201) := ⟨h9_⟩
                          have n10_ : Aside0 (Below w.heap.size w w29) := ⟨h10_⟩
                          clear HO_4
                          clear HO_6
                          clear HO212
                          clear BK201
                          clear HB
                          clear h0_ h1_ h2_ h3_ h4_ h5_ h6_ h7_ h8_ h9_ h10_
                          have HO212 := n0_
                          have HO219 := n1_
                          have HO_4 := n2_
                          have HO_6 := n3_
                          have BK201 := n4_
                          have BK220 := n5_
                          have GW220 := n6_
                          have GE220 := n7_
                          have NB201_220 := n8_
                          have NB220_201 := n9_
                          have HB := n10_
                          clear n0_ n1_ n2_ n3_ n4_ n5_ n6_ n7_ n8_ n9_ n10_
                          have hHeld : w29.cell? ⟨gb201, 0, none⟩ = some (.int .i64 x202000_2) ∧ w29.cell? ⟨gb201, 1, none⟩ = some (.int .i64 x202001_2) ∧ w29.cell? ⟨gb201, 2, none⟩ = some (.int .i64 x202002_2) ∧ w29.cell? (ad213.add (x27_2).toNat) = some (.int .u8 (rd t198 x27_2)) := hS_
                          refine norm_ (a' := ?_) ?_ ?_
                          rotate_left
                          · simp only [putAll, Act.put, List.setIfInBounds_toArray, List.set_cons_zero, List.set_cons_succ]
                            rfl
                          refine one_ (i := 10) (N := none) #[true, true, true, true, true, true, true, true, true, true, true, false] rfl rfl (one_of HT_.out (by kernel_rfl)) (by decide) (fun K hK => ?_)
                          have hs30 : w29.cell? ⟨gb220, 0, none⟩ = some (.int .i64 0) := (blk_cell BK220.out 0).trans rfl
                          have hfs30 := blk_frozen BK220.out 0
                          have hns30_0 := NB201_220.out
                          have hms30_0 := NB220_201.out
                          have hs31 : w29.cell? ⟨gb220, 1, none⟩ = some (.int .i64 0) := (blk_cell BK220.out 1).trans rfl
                          have hfs31 := blk_frozen BK220.out 1
                          have hns31_0 := NB201_220.out
                          have hms31_0 := NB220_201.out
                          have hs32 : w29.cell? ⟨gb220, 2, none⟩ = some (.int .i64 0) := (blk_cell BK220.out 2).trans rfl
                          have hfs32 := blk_frozen BK220.out 2
                          have hns32_0 := NB201_220.out
                          have hms32_0 := NB220_201.out
                          refine skip_ (w1 := ?_) (by rfl) rfl ?_ ?_
                          rotate_left
                          · go_simp
                            rfl
                          refine hK.out _ _ ⟨((cell_far (p := ⟨gb220, _, none⟩) NB201_220.out _).trans (((cell_far (p := ⟨gb220, _, none⟩) NB201_220.out _).trans (((cell_far (p := ⟨gb220, _, none⟩) NB201_220.out _).trans (hHeld.1)))))), ((cell_far (p := ⟨gb220, _, none⟩) NB201_220.out _).trans (((cell_far (p := ⟨gb220, _, none⟩) NB201_220.out _).trans (((cell_far (p := ⟨gb220, _, none⟩) NB201_220.out _).trans (hHeld.2.1)))))), ((cell_far (p := ⟨gb220, _, none⟩) NB201_220.out _).trans (((cell_far (p := ⟨gb220, _, none⟩) NB201_220.out _).trans (((cell_far (p := ⟨gb220, _, none⟩) NB201_220.out _).trans (hHeld.2.2.1)))))), ((cell_far (p := ⟨gb220, _, none⟩) (by first | exact Kd.own_blk (Kd.R_ne HO_4.out BK220.out (by decide)) | (rw [add_block]; exact Kd.own_blk (Kd.R_ne HO_4.out BK220.out (by decide))) | (show (Addr.add _ _).block ≠ _; rw [add_block]; exact Kd.own_blk (Kd.R_ne HO_4.out BK220.out (by decide))) | (dsimp only; exact Kd.own_blk (Kd.R_ne HO_4.out BK220.out (by decide)))) _).trans (((cell_far (p := ⟨gb220, _, none⟩) (by first | exact Kd.own_blk (Kd.R_ne HO_4.out BK220.out (by decide)) | (rw [add_block]; exact Kd.own_blk (Kd.R_ne HO_4.out BK220.out (by decide))) | (show (Addr.add _ _).block ≠ _; rw [add_block]; exact Kd.own_blk (Kd.R_ne HO_4.out BK220.out (by decide))) | (dsimp only; exact Kd.own_blk (Kd.R_ne HO_4.out BK220.out (by decide)))) _).trans (((cell_far (p := ⟨gb220, _, none⟩) (by first | exact Kd.own_blk (Kd.R_ne HO_4.out BK220.out (by decide)) | (rw [add_block]; exact Kd.own_blk (Kd.R_ne HO_4.out BK220.out (by decide))) | (show (Addr.add _ _).block ≠ _; rw [add_block]; exact Kd.own_blk (Kd.R_ne HO_4.out BK220.out (by decide))) | (dsimp only; exact Kd.own_blk (Kd.R_ne HO_4.out BK220.out (by decide)))) _).trans (hHeld.2.2.2))))))⟩ (fun hHeld => ?_)
                          clear hK K
                          refine pure_ (i := 11) (N := some 9) (v := ?_) (a' := ?_) #[true, true, true, true, true, true, true, true, true, true, true, true] rfl rfl (any_of HT_.out (by kernel_rfl)) (fun _ _ _ h => h) (Or.inl ⟨by rfl, ?_⟩) ?_ ?_
                          rotate_left
                          · intro w'
                            go_simp
                            with_reducible rfl
                          rotate_left
                          · simp only [Act.put, List.setIfInBounds_toArray, List.set_cons_zero, List.set_cons_succ, i64_w, i32_w]
                            rfl
                          refine done_ (done_of HT_.out (by kernel_rfl)) ?_
                          try go_wp2
                          have n0_ : Aside0 (Kd.R (Kd.int .u8) 5 (((w29.setCell ⟨gb220, 0, none⟩ (.int .i64 t214)).setCell ⟨gb220, 1, none⟩ (.int .i64 t215)).setCell ⟨gb220, 2, none⟩ (.int .i64 t216)) w.heap.size (fun _ => True) (.slice (some ad213) t198.length co11) t198) := ⟨by (with_reducible repeat (first | apply Kd.R_alloc | apply Kd.R_drewN | apply Kd.R_drew | apply Kd.R_bytes)); exact Kd.R_mono (Kd.R_far (p := ⟨gb220, 2, none⟩) (Kd.R_far (p := ⟨gb220, 1, none⟩) (Kd.R_far (p := ⟨gb220, 0, none⟩) (Kd.R_types HO_4.out BK220.out (by decide)) (fun _ hk => hk.2) (.int .i64 t214)) (fun _ hk => hk.2) (.int .i64 t215)) (fun _ hk => hk.2) (.int .i64 t216)) (fun _ hk => trivial)⟩
                          have n1_ : Aside0 (Kd.R (Kd.int .i32) 21 (((w29.setCell ⟨gb220, 0, none⟩ (.int .i64 t214)).setCell ⟨gb220, 1, none⟩ (.int .i64 t215)).setCell ⟨gb220, 2, none⟩ (.int .i64 t216)) w.heap.size (fun k_ => some k_ ≠ (.slice Ao25 t210.length co25 : Value).ownBlock ∧ some k_ ≠ (v218 : Value).ownBlock) (.slice Ao22 x6_2.length co22) x6_2) := ⟨by (with_reducible repeat (first | apply Kd.R_alloc | apply Kd.R_drewN | apply Kd.R_drew | apply Kd.R_bytes)); exact Kd.R_mono (Kd.R_far (p := ⟨gb220, 2, none⟩) (Kd.R_far (p := ⟨gb220, 1, none⟩) (Kd.R_far (p := ⟨gb220, 0, none⟩) (Kd.R_types HO_6.out BK220.out (by decide)) (fun _ hk => hk.2) (.int .i64 t214)) (fun _ hk => hk.2) (.int .i64 t215)) (fun _ hk => hk.2) (.int .i64 t216)) (fun _ hk => ⟨hk.1.1, hk.1.2⟩)⟩
                          have n2_ : Aside0 (Kd.R (Kd.int .i32) 21 (((w29.setCell ⟨gb220, 0, none⟩ (.int .i64 t214)).setCell ⟨gb220, 1, none⟩ (.int .i64 t215)).setCell ⟨gb220, 2, none⟩ (.int .i64 t216)) w.heap.size (fun k_ => some k_ ≠ (.slice Ao22 x6_2.length co22 : Value).ownBlock ∧ some k_ ≠ (v218 : Value).ownBlock) (.slice Ao25 t210.length co25) t210) := ⟨by (with_reducible repeat (first | apply Kd.R_alloc | apply Kd.R_drewN | apply Kd.R_drew | apply Kd.R_bytes)); exact Kd.R_mono (Kd.R_far (p := ⟨gb220, 2, none⟩) (Kd.R_far (p := ⟨gb220, 1, none⟩) (Kd.R_far (p := ⟨gb220, 0, none⟩) (Kd.R_types HO212.out BK220.out (by decide)) (fun _ hk => hk.2) (.int .i64 t214)) (fun _ hk => hk.2) (.int .i64 t215)) (fun _ hk => hk.2) (.int .i64 t216)) (fun _ hk => ⟨hk.1.2, hk.1.1⟩)⟩
                          have n3_ : Aside0 (Kd.R (Kd.int .i32) 21 (((w29.setCell ⟨gb220, 0, none⟩ (.int .i64 t214)).setCell ⟨gb220, 1, none⟩ (.int .i64 t215)).setCell ⟨gb220, 2, none⟩ (.int .i64 t216)) w.heap.size (fun k_ => some k_ ≠ (.slice Ao22 x6_2.length co22 : Value).ownBlock ∧ some k_ ≠ (.slice Ao25 t210.length co25 : Value).ownBlock) v218 t217) := ⟨by (with_reducible repeat (first | apply Kd.R_alloc | apply Kd.R_drewN | apply Kd.R_drew | apply Kd.R_bytes)); exact Kd.R_mono (Kd.R_far (p := ⟨gb220, 2, none⟩) (Kd.R_far (p := ⟨gb220, 1, none⟩) (Kd.R_far (p := ⟨gb220, 0, none⟩) (Kd.R_types HO219.out BK220.out (by decide)) (fun _ hk => hk.2) (.int .i64 t214)) (fun _ hk => hk.2) (.int .i64 t215)) (fun _ hk => hk.2) (.int .i64 t216)) (fun _ hk => ⟨hk.1.2, hk.1.1⟩)⟩
                          have n4_ : Aside0 ((((w29.setCell ⟨gb220, 0, none⟩ (.int .i64 t214)).setCell ⟨gb220, 1, none⟩ (.int .i64 t215)).setCell ⟨gb220, 2, none⟩ (.int .i64 t216)).heap[gb201]? = some (.cells #[.int .i64 x202000_2, .int .i64 x202001_2, .int .i64 x202002_2] 25 (0, 0))) := ⟨by (with_reducible repeat (first | refine blk_drewN ?_ _ | refine blk_drew ?_ | refine blk_alloc ?_ _ | refine blk_bytes ?_ _ _)); refine blk_far ?_ NB201_220.out _; (with_reducible repeat (first | refine blk_drewN ?_ _ | refine blk_drew ?_ | refine blk_alloc ?_ _ | refine blk_bytes ?_ _ _)); refine blk_far ?_ NB201_220.out _; (with_reducible repeat (first | refine blk_drewN ?_ _ | refine blk_drew ?_ | refine blk_alloc ?_ _ | refine blk_bytes ?_ _ _)); refine blk_far ?_ NB201_220.out _; (with_reducible repeat (first | refine blk_drewN ?_ _ | refine blk_drew ?_ | refine blk_alloc ?_ _ | refine blk_bytes ?_ _ _)); exact BK201.out⟩
                          have n5_ : Aside0 ((((w29.setCell ⟨gb220, 0, none⟩ (.int .i64 t214)).setCell ⟨gb220, 1, none⟩ (.int .i64 t215)).setCell ⟨gb220, 2, none⟩ (.int .i64 t216)).heap[gb220]? = some (.cells #[.int .i64 t214, .int .i64 t215, .int .i64 t216] 25 (0, 0))) := ⟨by (with_reducible repeat (first | refine blk_drewN ?_ _ | refine blk_drew ?_ | refine blk_alloc ?_ _ | refine blk_bytes ?_ _ _)); refine blk_put (cs := #[.int .i64 t214, .int .i64 t215, .int .i64 0]) ?_ 2 _ rfl; (with_reducible repeat (first | refine blk_drewN ?_ _ | refine blk_drew ?_ | refine blk_alloc ?_ _ | refine blk_bytes ?_ _ _)); refine blk_put (cs := #[.int .i64 t214, .int .i64 0, .int .i64 0]) ?_ 1 _ rfl; (with_reducible repeat (first | refine blk_drewN ?_ _ | refine blk_drew ?_ | refine blk_alloc ?_ _ | refine blk_bytes ?_ _ _)); refine blk_put (cs := #[.int .i64 0, .int .i64 0, .int .i64 0]) ?_ 0 _ rfl; (with_reducible repeat (first | refine blk_drewN ?_ _ | refine blk_drew ?_ | refine blk_alloc ?_ _ | refine blk_bytes ?_ _ _)); exact BK220.out⟩
                          have n6_ : Aside0 (Below w.heap.size w (((w29.setCell ⟨gb220, 0, none⟩ (.int .i64 t214)).setCell ⟨gb220, 1, none⟩ (.int .i64 t215)).setCell ⟨gb220, 2, none⟩ (.int .i64 t216))) := ⟨by repeat (first | (with_reducible first | exact HB.out | apply below_alloc | apply pw_below_drewN | apply below_drew1 | apply below_bytes | refine below_set ?_ GE201.out | refine below_set ?_ GE220.out) | exact HB.out)⟩
                          (try clear HO_4)
                          (try clear HO_6)
                          (try clear HO212)
                          (try clear HO219)
                          (try clear BK201)
                          (try clear BK220)
                          (try clear HB)
                          generalize (((w29.setCell ⟨gb220, 0, none⟩ (.int .i64 t214)).setCell ⟨gb220, 1, none⟩ (.int .i64 t215)).setCell ⟨gb220, 2, none⟩ (.int .i64 t216)) = w33 at n0_ n1_ n2_ n3_ n4_ n5_ n6_ ⊢
                          have HO_4 := n0_
                          have HO_6 := n1_
                          have HO212 := n2_
                          have HO219 := n3_
                          have BK201 := n4_
                          have BK220 := n5_
                          have HB := n6_
                          clear n0_ n1_ n2_ n3_ n4_ n5_ n6_
                          have n0_ := Aside0.mk (Kd.R_drew HO_4.out)
                          have n1_ := Aside0.mk (Kd.R_drew HO_6.out)
                          have n2_ := Aside0.mk (Kd.R_drew HO212.out)
                          have n3_ := Aside0.mk (Kd.R_drew HO219.out)
                          have n4_ := Aside0.mk (blk_drew BK201.out)
                          have n5_ := Aside0.mk (blk_drew BK220.out)
                          have n6_ := Aside0.mk (below_drew1 HB.out)
                          clear HO_4
                          clear HO_6
                          clear HO212
                          clear HO219
                          clear BK201
                          clear BK220
                          clear HB
                          have HO_4 := n0_
                          have HO_6 := n1_
                          have HO212 := n2_
                          have HO219 := n3_
                          have BK201 := n4_
                          have BK220 := n5_
                          have HB := n6_
                          clear n0_ n1_ n2_ n3_ n4_ n5_ n6_
                          obtain ⟨Ao36, co36, eo36⟩ := Kd.R_slice HO219.out
                          (first | subst eo36 | (injection eo36 with f1_ f2_ f3_; have f4_ := f1_.symm; have f5_ := f3_.symm; clear f1_ f2_ f3_; subst f4_; subst f5_))
                          refine start_ (n := 6) (S := fun w' => w'.cell? ⟨gb220, 0, none⟩ = some (.int .i64 t214) ∧ w'.cell? ⟨gb220, 1, none⟩ = some (.int .i64 t215) ∧ w'.cell? ⟨gb220, 2, none⟩ = some (.int .i64 t216)) (ds := []) #[false, false, false, false, false, false] (by kernel_rfl) rfl rfl ⟨(blk_cell BK220.out 0).trans rfl, (blk_cell BK220.out 1).trans rfl, (blk_cell BK220.out 2).trans rfl⟩ (fun hHeld => ?_)
                          generalize w33.drew = w34 at HO_4 HO_6 HO212 HO219 BK201 BK220 HB hHeld ⊢
                          refine pure_ (i := 1) (N := some 58) (v := ?_) (a' := ?_) #[false, true, false, false, false, false] rfl rfl (by kernel_rfl) (fun _ _ _ h => h) (Or.inl ⟨by rfl, ?_⟩) ?_ ?_
                          rotate_left
                          · intro w'
                            go_simp
                            with_reducible rfl
                          rotate_left
                          · simp only [Act.put, List.setIfInBounds_toArray, List.set_cons_zero, List.set_cons_succ, i64_w, i32_w]
                            rfl
                          refine pure_ (i := 2) (N := some 59) (v := ?_) (a' := ?_) #[false, true, true, false, false, false] rfl rfl (by kernel_rfl) (fun _ _ _ h => h) (Or.inl ⟨by rfl, ?_⟩) ?_ ?_
                          rotate_left
                          · intro w'
                            go_simp
                            with_reducible rfl
                          rotate_left
                          · simp only [Act.put, List.setIfInBounds_toArray, List.set_cons_zero, List.set_cons_succ, i64_w, i32_w]
                            rfl
                          refine take_ (i := 0) (N := some 57) (v := ?_) (a' := ?_) #[true, true, true, false, false, false] rfl rfl (by kernel_rfl) (fun _ _ _ h => h) (Or.inl ⟨by rfl, ?_⟩) hHeld ?_ ?_
                          rotate_left
                          · rintro w' ⟨s0, s1, s2⟩
                            go_simp
                            with_reducible rfl
                          rotate_left
                          · simp only [Act.put, List.setIfInBounds_toArray, List.set_cons_zero, List.set_cons_succ, i64_w, i32_w]
                            rfl
                          refine one_ (i := 3) (N := some 60) #[true, true, true, true, false, false] rfl rfl (by kernel_rfl) (by decide) (fun K hK => ?_)
                          refine Kd.R_append_rows_step (Kd.int .i32) (w0 := w) w.heap.size (by rfl) (.tmp 58) (.tmp 59) 26 21 (.int .i32 0) 4 rfl Try.underlying26 info21 rfl (by decide) (by omega) (.slice Ao22 x6_2.length co22) x6_2 t217 _ _ _ (fun k_ => some k_ ≠ (.slice Ao25 t210.length co25 : Value).ownBlock ∧ some k_ ≠ (.slice Ao36 t217.length co36 : Value).ownBlock) (fun _ => False) rfl rfl ?aO ?aR (fun _ _ h => h) (fun _ h => h.elim) ?aF ?aB ?aS ?aL ?_
                          (case aR => repeat (first | exact (Kd.R_reads' HO219.out).2.2 | (with_reducible refine Kd.C_alloc ?_ _) | (with_reducible refine Kd.C_drewN ?_ _) | (with_reducible refine Kd.C_drew ?_)))
                          (case aB => exact (by repeat (first | (with_reducible first | exact HB.out | apply below_alloc | apply pw_below_drewN | apply below_drew1 | apply below_bytes | refine below_set ?_ GE201.out | refine below_set ?_ GE220.out) | exact HB.out)))
                          (case aF => exact (fun k_ hk => ⟨Kd.fresh' (Kd.R_lt (by (with_reducible repeat (first | apply Kd.R_alloc | apply Kd.R_drewN | apply Kd.R_drew | apply Kd.R_bytes)); exact HO212.out)) k_ hk, Kd.fresh' (Kd.R_lt (by (with_reducible repeat (first | apply Kd.R_alloc | apply Kd.R_drewN | apply Kd.R_drew | apply Kd.R_bytes)); exact HO219.out)) k_ hk⟩))
                          (case aO => exact (by (with_reducible repeat (first | apply Kd.R_alloc | apply Kd.R_drewN | apply Kd.R_drew | apply Kd.R_bytes)); exact HO_6.out))
                          (case aS => exact (below_size (by repeat (first | (with_reducible first | exact HB.out | apply below_alloc | apply pw_below_drewN | apply below_drew1 | apply below_bytes | refine below_set ?_ GE201.out | refine below_set ?_ GE220.out) | exact HB.out))))
                          (case aL => have := LMc21.out; omega)
                          intro v222 w35 ho hb hg hat
                          rw [← Ny221.out] at ho
                          have n0_ := Aside0.mk (Kd.R_over' (by (with_reducible repeat (first | apply Kd.R_alloc | apply Kd.R_drewN | apply Kd.R_drew | apply Kd.R_bytes)); exact HO_4.out) (Kd.R_typed (by (with_reducible repeat (first | apply Kd.R_alloc | apply Kd.R_drewN | apply Kd.R_drew | apply Kd.R_bytes)); exact HO_6.out)) (by decide) hg)
                          have n1_ := Aside0.mk (blk_grown (g := gb201) (o := .cells #[.int .i64 x202000_2, .int .i64 x202001_2, .int .i64 x202002_2] 25 (0, 0)) (by (with_reducible repeat (first | refine blk_drewN ?_ _ | refine blk_drew ?_ | refine blk_alloc ?_ _ | refine blk_bytes ?_ _ _)); exact BK201.out) hg (Kd.R_ne HO_6.out BK201.out (by decide)))
                          have n2_ := Aside0.mk (Kd.R_after (ok := (fun k_ => some k_ ≠ (.slice Ao36 t217.length co36 : Value).ownBlock)) (by (with_reducible repeat (first | apply Kd.R_alloc | apply Kd.R_drewN | apply Kd.R_drew | apply Kd.R_bytes)); exact Kd.R_mono HO212.out (fun _ hk => ⟨hk.2, hk.1⟩)) hg hat)
                          have n3_ := Aside0.mk (Kd.R_after (ok := (fun k_ => some k_ ≠ (.slice Ao25 t210.length co25 : Value).ownBlock)) (by (with_reducible repeat (first | apply Kd.R_alloc | apply Kd.R_drewN | apply Kd.R_drew | apply Kd.R_bytes)); exact Kd.R_mono HO219.out (fun _ hk => ⟨hk.2, hk.1⟩)) hg hat)
                          have n4_ := Aside0.mk (blk_grown (g := gb220) (o := .cells #[.int .i64 t214, .int .i64 t215, .int .i64 t216] 25 (0, 0)) (by (with_reducible repeat (first | refine blk_drewN ?_ _ | refine blk_drew ?_ | refine blk_alloc ?_ _ | refine blk_bytes ?_ _ _)); exact BK220.out) hg (Kd.R_ne HO_6.out BK220.out (by decide)))
                          have n5_ := Aside0.mk (hb)
                          have n6_ := Aside0.mk (ho)
                          clear HO_4
                          clear BK201
                          clear HO212
                          clear HO219
                          clear BK220
                          clear HB
                          clear HO_6
                          have HO_4 := n0_
                          have BK201 := n1_
                          have HO212 := n2_
                          have HO219 := n3_
                          have BK220 := n4_
                          have HB := n5_
                          have HO223 := n6_
                          clear n0_ n1_ n2_ n3_ n4_ n5_ n6_
                          clear ho hb hg hat
                          refine hK.out _ _ ⟨(blk_cell BK220.out 0).trans rfl, (blk_cell BK220.out 1).trans rfl, (blk_cell BK220.out 2).trans rfl⟩ (fun hHeld => ?_)
                          clear hK K
                          refine norm_ (a' := ?_) ?_ ?_
                          rotate_left
                          · show Act.put _ (some 60) _ = _
                            simp only [Act.put, List.setIfInBounds_toArray, List.set_cons_zero, List.set_cons_succ, i64_w, i32_w]
                            rfl
                          refine one_ (i := 4) (N := none) #[true, true, true, true, true, false] rfl rfl (by kernel_rfl) (by decide) (fun K hK => ?_)
                          have hs37 : w35.cell? ⟨gb201, 0, none⟩ = some (.int .i64 x202000_2) := (blk_cell BK201.out 0).trans rfl
                          have hfs37 := blk_frozen BK201.out 0
                          have hns37_1 := NB220_201.out
                          have hms37_1 := NB201_220.out
                          have hs38 : w35.cell? ⟨gb201, 1, none⟩ = some (.int .i64 x202001_2) := (blk_cell BK201.out 1).trans rfl
                          have hfs38 := blk_frozen BK201.out 1
                          have hns38_1 := NB220_201.out
                          have hms38_1 := NB201_220.out
                          have hs39 : w35.cell? ⟨gb201, 2, none⟩ = some (.int .i64 x202002_2) := (blk_cell BK201.out 2).trans rfl
                          have hfs39 := blk_frozen BK201.out 2
                          have hns39_1 := NB220_201.out
                          have hms39_1 := NB201_220.out
                          refine skip_ (w1 := ?_) (by rfl) rfl ?_ ?_
                          rotate_left
                          · go_simp
                            rfl
                          refine hK.out _ _ ⟨((cell_far (p := ⟨gb201, _, none⟩) NB220_201.out _).trans (((cell_far (p := ⟨gb201, _, none⟩) NB220_201.out _).trans (((cell_far (p := ⟨gb201, _, none⟩) NB220_201.out _).trans (hHeld.1)))))), ((cell_far (p := ⟨gb201, _, none⟩) NB220_201.out _).trans (((cell_far (p := ⟨gb201, _, none⟩) NB220_201.out _).trans (((cell_far (p := ⟨gb201, _, none⟩) NB220_201.out _).trans (hHeld.2.1)))))), ((cell_far (p := ⟨gb201, _, none⟩) NB220_201.out _).trans (((cell_far (p := ⟨gb201, _, none⟩) NB220_201.out _).trans (((cell_far (p := ⟨gb201, _, none⟩) NB220_201.out _).trans (hHeld.2.2))))))⟩ (fun hHeld => ?_)
                          clear hK K
                          refine pure_ (i := 5) (N := some 6) (v := ?_) (a' := ?_) #[true, true, true, true, true, true] rfl rfl (by kernel_rfl) (fun _ _ _ h => h) (Or.inl ⟨by rfl, ?_⟩) ?_ ?_
                          rotate_left
                          · intro w'
                            go_simp
                            with_reducible rfl
                          rotate_left
                          · simp only [Act.put, List.setIfInBounds_toArray, List.set_cons_zero, List.set_cons_succ, i64_w, i32_w]
                            rfl
                          refine done_ (by kernel_rfl) ?_
                          try go_wp2
                          go_roundg k2
                          case measure => have := HJ2.out; have := HK2.out; omega
                          case rel => exact ⟨(y221), (wrap64 (x27_2 + 1)), (t214), (t215), (t216), (by first | rfl | (simp; done) | (simp [*]; done)), H', ⟨by have := HJ2.out; have := HK2.out; omega⟩, ⟨by (with_reducible repeat (first | apply Kd.R_alloc | apply Kd.R_drewN | apply Kd.R_drew | apply Kd.R_bytes)); exact Kd.R_mono (Kd.R_far (p := ⟨gb201, 2, none⟩) (Kd.R_far (p := ⟨gb201, 1, none⟩) (Kd.R_far (p := ⟨gb201, 0, none⟩) (Kd.R_types HO_4.out BK201.out (by decide)) (fun _ hk => hk.2) (.int .i64 t214)) (fun _ hk => hk.2) (.int .i64 t215)) (fun _ hk => hk.2) (.int .i64 t216)) (fun _ hk => trivial)⟩, ⟨by (with_reducible repeat (first | apply Kd.R_alloc | apply Kd.R_drewN | apply Kd.R_drew | apply Kd.R_bytes)); exact Kd.R_mono (Kd.R_far (p := ⟨gb201, 2, none⟩) (Kd.R_far (p := ⟨gb201, 1, none⟩) (Kd.R_far (p := ⟨gb201, 0, none⟩) (Kd.R_types HO223.out BK201.out (by decide)) (fun _ hk => hk.2) (.int .i64 t214)) (fun _ hk => hk.2) (.int .i64 t215)) (fun _ hk => hk.2) (.int .i64 t216)) (fun _ hk => trivial)⟩, ⟨by (with_reducible repeat (first | refine blk_drewN ?_ _ | refine blk_drew ?_ | refine blk_alloc ?_ _ | refine blk_bytes ?_ _ _)); refine blk_put (cs := #[.int .i64 t214, .int .i64 t215, .int .i64 x202002_2]) ?_ 2 _ rfl; (with_reducible repeat (first | refine blk_drewN ?_ _ | refine blk_drew ?_ | refine blk_alloc ?_ _ | refine blk_bytes ?_ _ _)); refine blk_put (cs := #[.int .i64 t214, .int .i64 x202001_2, .int .i64 x202002_2]) ?_ 1 _ rfl; (with_reducible repeat (first | refine blk_drewN ?_ _ | refine blk_drew ?_ | refine blk_alloc ?_ _ | refine blk_bytes ?_ _ _)); refine blk_put (cs := #[.int .i64 x202000_2, .int .i64 x202001_2, .int .i64 x202002_2]) ?_ 0 _ rfl; (with_reducible repeat (first | refine blk_drewN ?_ _ | refine blk_drew ?_ | refine blk_alloc ?_ _ | refine blk_bytes ?_ _ _)); exact BK201.out⟩, ⟨by repeat (first | (with_reducible first | exact HB.out | apply below_alloc | apply pw_below_drewN | apply below_drew1 | apply below_bytes | refine below_set ?_ GE201.out | refine below_set ?_ GE220.out) | exact HB.out)⟩⟩
                        · rw [if_neg c21] at H
                          exact absurd H (by simp)
                      · rw [if_neg c19] at H
                        exact absurd H (by simp)
                    · rw [if_neg c18] at H
                      exact absurd H (by simp)
                  · rw [if_neg c17] at H
                    have c17b0 : ((t210.length : Int) == (ji16)) = false := beq_eq_false_iff_ne.mpr c17
                    have c17b1 : ((t210.length : Int) != (ji16)) = true := bne_iff_ne.mpr c17
                    exact absurd ((Option.some.inj H).trans hT_.out) (by decide)
              · rw [if_neg c13] at H
                have c13b0 : (x27_2 == (wrap64 ((t198.length : Int) - 1))) = false := beq_eq_false_iff_ne.mpr c13
                have c13b1 : (x27_2 != (wrap64 ((t198.length : Int) - 1))) = true := bne_iff_ne.mpr c13
                by_cases c40 : 0 ≤ x27_2
                · rw [if_pos c40] at H
                  have c40b0 : decide (0 ≤ x27_2) = true := decide_eq_true c40
                  clear c40
                  by_cases c41 : x27_2 < (t198.length : Int)
                  · rw [if_pos c41] at H
                    have c41b0 : decide (x27_2 < (t198.length : Int)) = true := decide_eq_true c41
                    clear c41
                    replace H := Option.bind_eq_some_iff.mp H
                    obtain ⟨⟨t225, t226, t227, t228⟩, A420, H⟩ := H
                    replace H : (if x6_2.length + t228.length < 35184372088832 then (polyptychlaw1_UtfdBack.l0 k2 (wrap32 (Go.bits .and .i64 a0 2097151)) t198 (x6_2 ++ t228) (t198.length : Int) (wrap64 (x27_2 + 1)) t225 t226 t227) else (none)) = some r := H
                    have A42 := Aside0.mk A420
                    clear A420
                    by_cases c43 : x6_2.length + t228.length < 35184372088832
                    · rw [if_pos c43] at H
                      have LMc43 := Aside0.mk c43
                      clear c43
                      obtain ⟨y232, hy232⟩ : ∃ y_ : List Int, y_ = (x6_2 ++ t228) := ⟨_, rfl⟩
                      replace H : (polyptychlaw1_UtfdBack.l0 k2 (wrap32 (Go.bits .and .i64 a0 2097151)) t198 y232 (t198.length : Int) (wrap64 (x27_2 + 1)) t225 t226 t227) = some r := by first | (rw [hy232]; with_reducible exact H) | (have H2_ := (Option.bind_some _ _).symm.trans H; rw [hy232]; with_reducible exact H2_) | (have H2_ := (Option.bind_some _ _).symm.trans H; with_reducible exact H2_) | with_reducible exact H | (rw [hy232]; exact H) | exact H
                      have Ny232 := Aside0.mk hy232
                      clear hy232
                      have H' := Aside0.mk H
                      clear H
                      try go_wp2
                      have n0_ := Aside0.mk (Kd.R_drew HO_4.out)
                      have n1_ := Aside0.mk (Kd.R_drew HO_6.out)
                      have n2_ := Aside0.mk (blk_drew BK201.out)
                      have n3_ := Aside0.mk (below_drew1 HB.out)
                      clear HO_4
                      clear HO_6
                      clear BK201
                      clear HB
                      have HO_4 := n0_
                      have HO_6 := n1_
                      have BK201 := n2_
                      have HB := n3_
                      clear n0_ n1_ n2_ n3_
                      have p224 : 0 ≤ (x27_2 : Int) := of_decide_eq_true (by first | (with_reducible assumption) | assumption)
                      have q224 : x27_2 < (t198.length : Int) := of_decide_eq_true (by first | (with_reducible assumption) | assumption)
                      obtain ⟨ad224, e224, hx224_0⟩ := Kd.at_int (Kd.R_reads' HO_4.out).2.2 x27_2 p224 q224
                      cases e224
                      replace p224 := eq_true p224
                      replace q224 := eq_true q224
                      refine start_ (n := 12) (S := fun w' => w'.cell? ⟨gb201, 0, none⟩ = some (.int .i64 x202000_2) ∧ w'.cell? ⟨gb201, 1, none⟩ = some (.int .i64 x202001_2) ∧ w'.cell? ⟨gb201, 2, none⟩ = some (.int .i64 x202002_2) ∧ w'.cell? (ad224.add (x27_2).toNat) = some (.int .u8 (rd t198 x27_2))) (ds := []) #[false, false, false, false, false, false, false, false, false, false, false, false] (by kernel_rfl) rfl rfl ⟨(blk_cell BK201.out 0).trans rfl, (blk_cell BK201.out 1).trans rfl, (blk_cell BK201.out 2).trans rfl, hx224_0⟩ (fun hHeld => ?_); refine with_tabW polyptychlaw1_UtfdBack.tab12 polyptychlaw1_UtfdBack.bits12 (fun HT_ HW_ => ?_)
                      generalize wr.drew = w44 at HO_4 HO_6 BK201 HB hx224_0 hHeld ⊢
                      refine pure_ (i := 1) (N := some 50) (v := ?_) (a' := ?_) #[false, true, false, false, false, false, false, false, false, false, false, false] rfl rfl (any_of HT_.out (by kernel_rfl)) (fun _ _ _ h => h) (Or.inl ⟨by rfl, ?_⟩) ?_ ?_
                      rotate_left
                      · intro w'
                        go_simp
                        with_reducible rfl
                      rotate_left
                      · simp only [Act.put, List.setIfInBounds_toArray, List.set_cons_zero, List.set_cons_succ, i64_w, i32_w]
                        rfl
                      refine pure_ (i := 2) (N := some 51) (v := ?_) (a' := ?_) #[false, true, true, false, false, false, false, false, false, false, false, false] rfl rfl (any_of HT_.out (by kernel_rfl)) (fun _ _ _ h => h) (Or.inl ⟨by rfl, ?_⟩) ?_ ?_
                      rotate_left
                      · intro w'
                        go_simp
                        with_reducible rfl
                      rotate_left
                      · simp only [Act.put, List.setIfInBounds_toArray, List.set_cons_zero, List.set_cons_succ, i64_w, i32_w]
                        rfl
                      refine pure_ (i := 3) (N := some 52) (v := ?_) (a' := ?_) #[false, true, true, true, false, false, false, false, false, false, false, false] rfl rfl (any_of HT_.out (by kernel_rfl)) (fun _ _ _ h => h) (Or.inl ⟨by rfl, ?_⟩) ?_ ?_
                      rotate_left
                      · intro w'
                        go_simp
                        with_reducible rfl
                      rotate_left
                      · simp only [Act.put, List.setIfInBounds_toArray, List.set_cons_zero, List.set_cons_succ, i64_w, i32_w]
                        rfl
                      refine take_ (i := 0) (N := some 49) (v := ?_) (a' := ?_) #[true, true, true, true, false, false, false, false, false, false, false, false] rfl rfl (take_ofW HT_.out HW_.out (by kernel_rfl)) (fun _ _ _ h => h) (Or.inl ⟨by rfl, ?_⟩) hHeld ?_ ?_
                      rotate_left
                      · rintro w' ⟨s0, s1, s2, s3⟩
                        go_simp
                        with_reducible rfl
                      rotate_left
                      · simp only [Act.put, List.setIfInBounds_toArray, List.set_cons_zero, List.set_cons_succ, i64_w, i32_w]
                        rfl
                      refine take_ (i := 4) (N := some 53) (v := ?_) (a' := ?_) #[true, true, true, true, true, false, false, false, false, false, false, false] rfl rfl (take_ofW HT_.out HW_.out (by kernel_rfl)) (fun _ _ _ h => h) (Or.inl ⟨by rfl, ?_⟩) hHeld ?_ ?_
                      rotate_left
                      · rintro w' ⟨s0, s1, s2, s3⟩
                        go_simp
                        with_reducible rfl
                      rotate_left
                      · simp only [Act.put, List.setIfInBounds_toArray, List.set_cons_zero, List.set_cons_succ, i64_w, i32_w]
                        rfl
                      refine join_ (σ := Value × Nat) 2 #[true, true, true, true, true, true, true, true, true, true, false, false] (fun s_ => [(54, .tuple #[.agg #[.int .i64 t225, .int .i64 t226, .int .i64 t227], s_.1]), (8, .pointer (some ⟨s_.2, 0, none⟩)), (48, .tuple #[.agg #[.int .i64 t225, .int .i64 t226, .int .i64 t227], s_.1]), (55, .agg #[.int .i64 t225, .int .i64 t226, .int .i64 t227]), (56, s_.1)]) (fun s_ w' => (w'.cell? ⟨gb201, 0, none⟩ = some (.int .i64 x202000_2) ∧ w'.cell? ⟨gb201, 1, none⟩ = some (.int .i64 x202001_2) ∧ w'.cell? ⟨gb201, 2, none⟩ = some (.int .i64 x202002_2) ∧ w'.cell? (ad224.add (x27_2).toNat) = some (.int .u8 (rd t198 x27_2))) ∧ (Kd.R (Kd.int .i32) 21 w' w.heap.size (fun k_ => some k_ ≠ (u6 : Value).ownBlock) s_.1 t228) ∧ (Kd.R (Kd.int .u8) 5 w' w.heap.size (fun _ => True) (.slice (some ad224) t198.length co11) t198) ∧ (Kd.R (Kd.int .i32) 21 w' w.heap.size (fun k_ => some k_ ≠ (s_.1 : Value).ownBlock) u6 x6_2) ∧ (w'.heap[gb201]? = some (.cells #[.int .i64 x202000_2, .int .i64 x202001_2, .int .i64 x202002_2] 25 (0, 0))) ∧ (w'.heap[s_.2]? = some (.cells #[.int .i64 0, .int .i64 0, .int .i64 0] 25 (0, 0))) ∧ (w.heap.size ≤ s_.2) ∧ (w.heap.size ≤ s_.2) ∧ (gb201 ≠ s_.2) ∧ (s_.2 ≠ gb201) ∧ (Below w.heap.size w w')) ?_ ?_
                      rotate_left
                      · intro hCont
                        refine two_ (i := 5) (j := 9) (Ni := some 54) (Nj := some 8) #[true, true, true, true, true, true, false, false, false, false, false, false] #[true, true, true, true, true, false, false, false, false, true, false, false] rfl rfl rfl rfl (two_of HT_.out (by kernel_rfl)) (by decide) (by decide) (fun K hK => ?_) (fun K hK => ?_)
                        · skip
                          refine goes_ Try.func7 (by kernel_rfl) rfl #[.agg #[.int .i64 x202000_2, .int .i64 x202001_2, .int .i64 x202002_2], .int .u8 (rd t198 x27_2)] (by rfl) rfl rfl (by (try simp only [List.map_toArray, List.map_cons, List.map_nil]); first | done | rfl | (simp only [List.length_drop, List.length_take]; rfl)) ?_
                          with_reducible refine (utfd_Step.calls k2 x202000_2 x202001_2 x202002_2 (rd t198 x27_2) t225 t226 t227 t228 _ A42.out).mono ?_
                          rintro e w45 ⟨v229, rfl, ho0, hb⟩
                          have HS3_ := (hb.cell (World.block_lt_of_cell? _ _ (hHeld.2.2.2))).trans (hHeld.2.2.2)
                          refine ⟨_, rfl, ?_⟩
                          have n0_ := Aside0.mk (Kd.R_below (by (with_reducible repeat (first | apply Kd.R_alloc | apply Kd.R_drewN | apply Kd.R_drew | apply Kd.R_bytes)); exact HO_4.out) hb)
                          have n1_ := Aside0.mk (Kd.R_elder' (by (with_reducible repeat (first | apply Kd.R_alloc | apply Kd.R_drewN | apply Kd.R_drew | apply Kd.R_bytes)); exact HO_6.out) (Kd.R_base ho0) hb)
                          have n2_ := Aside0.mk (Kd.R_lower (Kd.R_new' ho0 (Kd.R_lt (by (with_reducible repeat (first | apply Kd.R_alloc | apply Kd.R_drewN | apply Kd.R_drew | apply Kd.R_bytes)); exact HO_6.out))) (below_size (by repeat (first | (with_reducible first | exact HB.out | apply below_alloc | apply pw_below_drewN | apply below_drew1 | apply below_bytes | refine below_set ?_ GE201.out) | exact HB.out))))
                          have n3_ := Aside0.mk (blk_below (g := gb201) (o := .cells #[.int .i64 x202000_2, .int .i64 x202001_2, .int .i64 x202002_2] 25 (0, 0)) (by (with_reducible repeat (first | refine blk_drewN ?_ _ | refine blk_drew ?_ | refine blk_alloc ?_ _ | refine blk_bytes ?_ _ _)); exact BK201.out) hb)
                          have n4_ := Aside0.mk (below_step (by repeat (first | (with_reducible first | exact HB.out | apply below_alloc | apply pw_below_drewN | apply below_drew1 | apply below_bytes | refine below_set ?_ GE201.out) | exact HB.out)) hb)
                          clear HO_4
                          clear HO_6
                          clear BK201
                          clear HB
                          have HO_4 := n0_
                          have HO_6 := n1_
                          have HO230 := n2_
                          have BK201 := n3_
                          have HB := n4_
                          clear n0_ n1_ n2_ n3_ n4_
                          (try clear hb)
                          (try clear hb2)
                          (try clear hk)
                          (try clear hi)
                          (try clear ho0)
                          refine hK.out _ _ ⟨(blk_cell BK201.out 0).trans rfl, (blk_cell BK201.out 1).trans rfl, (blk_cell BK201.out 2).trans rfl, HS3_⟩ (fun hHeld => ?_)
                          clear hK K
                          refine norm_ (a' := ?_) ?_ ?_
                          rotate_left
                          · show Act.put _ (some 54) _ = _
                            simp only [Act.put, List.setIfInBounds_toArray, List.set_cons_zero, List.set_cons_succ, i64_w, i32_w]
                            rfl
                          refine pure_ (i := 6) (N := some 48) (v := ?_) (a' := ?_) #[true, true, true, true, true, true, true, false, false, false, false, false] rfl rfl (any_of HT_.out (by kernel_rfl)) (fun _ _ _ h => h) (Or.inl ⟨by rfl, ?_⟩) ?_ ?_
                          rotate_left
                          · intro w'
                            go_simp
                            with_reducible rfl
                          rotate_left
                          · simp only [Act.put, List.setIfInBounds_toArray, List.set_cons_zero, List.set_cons_succ, i64_w, i32_w]
                            rfl
                          refine pure_ (i := 7) (N := some 55) (v := ?_) (a' := ?_) #[true, true, true, true, true, true, true, true, false, false, false, false] rfl rfl (any_of HT_.out (by kernel_rfl)) (fun _ _ _ h => h) (Or.inl ⟨by rfl, ?_⟩) ?_ ?_
                          rotate_left
                          · intro w'
                            go_simp
                            with_reducible rfl
                          rotate_left
                          · simp only [Act.put, List.setIfInBounds_toArray, List.set_cons_zero, List.set_cons_succ, i64_w, i32_w]
                            rfl
                          refine pure_ (i := 8) (N := some 56) (v := ?_) (a' := ?_) #[true, true, true, true, true, true, true, true, true, false, false, false] rfl rfl (any_of HT_.out (by kernel_rfl)) (fun _ _ _ h => h) (Or.inl ⟨by rfl, ?_⟩) ?_ ?_
                          rotate_left
                          · intro w'
                            go_simp
                            with_reducible rfl
                          rotate_left
                          · simp only [Act.put, List.setIfInBounds_toArray, List.set_cons_zero, List.set_cons_succ, i64_w, i32_w]
                            rfl
                          refine one_ (i := 9) (N := some 8) #[true, true, true, true, true, true, true, true, true, true, false, false] rfl rfl (one_of HT_.out (by kernel_rfl)) (by decide) (fun K hK => ?_)
                          refine box_step ?hg (N := 8) ?hd (cs := #[.int .i64 0, .int .i64 0, .int .i64 0]) (t := 25) ?hr ?_; (case hd => rfl); (case hg => rfl); (case hr => first | (go_simp; done) | (go_simp; rfl))
                          intro gb231 hg w46 hbox hb
                          have HS3_ := (hb.cell (World.block_lt_of_cell? _ _ (hHeld.2.2.2))).trans (hHeld.2.2.2)
                          have n0_ := Aside0.mk (Kd.R_below (by (with_reducible repeat (first | apply Kd.R_alloc | apply Kd.R_drewN | apply Kd.R_drew | apply Kd.R_bytes)); exact HO_4.out) hb)
                          have n1_ := Aside0.mk (Kd.R_below (by (with_reducible repeat (first | apply Kd.R_alloc | apply Kd.R_drewN | apply Kd.R_drew | apply Kd.R_bytes)); exact HO_6.out) hb)
                          have n2_ := Aside0.mk (Kd.R_below (by (with_reducible repeat (first | apply Kd.R_alloc | apply Kd.R_drewN | apply Kd.R_drew | apply Kd.R_bytes)); exact HO230.out) hb)
                          have n3_ := Aside0.mk (blk_below (g := gb201) (o := .cells #[.int .i64 x202000_2, .int .i64 x202001_2, .int .i64 x202002_2] 25 (0, 0)) (by (with_reducible repeat (first | refine blk_drewN ?_ _ | refine blk_drew ?_ | refine blk_alloc ?_ _ | refine blk_bytes ?_ _ _)); exact BK201.out) hb)
                          have n4_ := Aside0.mk (below_step (by repeat (first | (with_reducible first | exact HB.out | apply below_alloc | apply pw_below_drewN | apply below_drew1 | apply below_bytes | refine below_set ?_ GE201.out) | exact HB.out)) hb)
                          have n5_ := Aside0.mk (hbox)
                          have n6_ := Aside0.mk ((by rw [hg]; exact (below_size (by repeat (first | (with_reducible first | exact HB.out | apply below_alloc | apply pw_below_drewN | apply below_drew1 | apply below_bytes | refine below_set ?_ GE201.out) | exact HB.out))) : w.heap.size ≤ gb231))
                          have n7_ := Aside0.mk ((by rw [hg]; exact (below_size (by repeat (first | (with_reducible first | exact HB.out | apply below_alloc | apply pw_below_drewN | apply below_drew1 | apply below_bytes | refine below_set ?_ GE201.out) | exact HB.out))) : w.heap.size ≤ gb231))
                          have n8_ := Aside0.mk ((by rw [hg]; exact Nat.ne_of_lt (blk_lt (g := gb201) (o := .cells #[.int .i64 x202000_2, .int .i64 x202001_2, .int .i64 x202002_2] 25 (0, 0)) (by (with_reducible repeat (first | refine blk_drewN ?_ _ | refine blk_drew ?_ | refine blk_alloc ?_ _ | refine blk_bytes ?_ _ _)); exact BK201.out)) : gb201 ≠ gb231))
                          have n9_ := Aside0.mk ((by rw [hg]; exact Nat.ne_of_gt (blk_lt (g := gb201) (o := .cells #[.int .i64 x202000_2, .int .i64 x202001_2, .int .i64 x202002_2] 25 (0, 0)) (by (with_reducible repeat (first | refine blk_drewN ?_ _ | refine blk_drew ?_ | refine blk_alloc ?_ _ | refine blk_bytes ?_ _ _)); exact BK201.out)) : gb231 ≠ gb201))
                          clear HO_4
                          clear HO_6
                          clear HO230
                          clear BK201
                          clear HB
                          have HO_4 := n0_
                          have HO_6 := n1_
                          have HO230 := n2_
                          have BK201 := n3_
                          have HB := n4_
                          have BK231 := n5_
                          have GW231 := n6_
                          have GE231 := n7_
                          have NB201_231 := n8_
                          have NB231_201 := n9_
                          clear n0_ n1_ n2_ n3_ n4_ n5_ n6_ n7_ n8_ n9_
                          clear hb hbox hg
                          refine hK.out _ _ ⟨(blk_cell BK201.out 0).trans rfl, (blk_cell BK201.out 1).trans rfl, (blk_cell BK201.out 2).trans rfl, HS3_⟩ (fun hHeld => ?_)
                          clear hK K
                          refine norm_ (a' := ?_) ?_ ?_
                          rotate_left
                          · show Act.put _ (some 8) _ = _
                            simp only [Act.put, List.setIfInBounds_toArray, List.set_cons_zero, List.set_cons_succ, i64_w, i32_w]
                            rfl
                          exact norm_ (by simp only [putAll, Act.put, List.setIfInBounds_toArray, List.set_cons_zero, List.set_cons_succ]) (hCont (v229, gb231) _ ⟨hHeld, (by (with_reducible repeat (first | apply Kd.R_alloc | apply Kd.R_drewN | apply Kd.R_drew | apply Kd.R_bytes)); exact Kd.R_mono HO230.out (fun _ hk => hk.2)), (by (with_reducible repeat (first | apply Kd.R_alloc | apply Kd.R_drewN | apply Kd.R_drew | apply Kd.R_bytes)); exact HO_4.out), (by (with_reducible repeat (first | apply Kd.R_alloc | apply Kd.R_drewN | apply Kd.R_drew | apply Kd.R_bytes)); exact Kd.R_mono HO_6.out (fun _ hk => hk.2)), (by (with_reducible repeat (first | refine blk_drewN ?_ _ | refine blk_drew ?_ | refine blk_alloc ?_ _ | refine blk_bytes ?_ _ _)); exact BK201.out), (by (with_reducible repeat (first | refine blk_drewN ?_ _ | refine blk_drew ?_ | refine blk_alloc ?_ _ | refine blk_bytes ?_ _ _)); exact BK231.out), GW231.out, GE231.out, NB201_231.out, NB231_201.out, (by repeat (first | (with_reducible first | exact HB.out | apply below_alloc | apply pw_below_drewN | apply below_drew1 | apply below_bytes | refine below_set ?_ GE201.out | refine below_set ?_ GE231.out) | exact HB.out))⟩)
                        · skip
                          refine box_step ?hg (N := 8) ?hd (cs := #[.int .i64 0, .int .i64 0, .int .i64 0]) (t := 25) ?hr ?_; (case hd => rfl); (case hg => rfl); (case hr => first | (go_simp; done) | (go_simp; rfl))
                          intro gb231 hg w45 hbox hb
                          have HS3_ := (hb.cell (World.block_lt_of_cell? _ _ (hHeld.2.2.2))).trans (hHeld.2.2.2)
                          have n0_ := Aside0.mk (Kd.R_below (by (with_reducible repeat (first | apply Kd.R_alloc | apply Kd.R_drewN | apply Kd.R_drew | apply Kd.R_bytes)); exact HO_4.out) hb)
                          have n1_ := Aside0.mk (Kd.R_below (by (with_reducible repeat (first | apply Kd.R_alloc | apply Kd.R_drewN | apply Kd.R_drew | apply Kd.R_bytes)); exact HO_6.out) hb)
                          have n2_ := Aside0.mk (blk_below (g := gb201) (o := .cells #[.int .i64 x202000_2, .int .i64 x202001_2, .int .i64 x202002_2] 25 (0, 0)) (by (with_reducible repeat (first | refine blk_drewN ?_ _ | refine blk_drew ?_ | refine blk_alloc ?_ _ | refine blk_bytes ?_ _ _)); exact BK201.out) hb)
                          have n3_ := Aside0.mk (below_step (by repeat (first | (with_reducible first | exact HB.out | apply below_alloc | apply pw_below_drewN | apply below_drew1 | apply below_bytes | refine below_set ?_ GE201.out) | exact HB.out)) hb)
                          have n4_ := Aside0.mk (hbox)
                          have n5_ := Aside0.mk ((by rw [hg]; exact (below_size (by repeat (first | (with_reducible first | exact HB.out | apply below_alloc | apply pw_below_drewN | apply below_drew1 | apply below_bytes | refine below_set ?_ GE201.out) | exact HB.out))) : w.heap.size ≤ gb231))
                          have n6_ := Aside0.mk ((by rw [hg]; exact (below_size (by repeat (first | (with_reducible first | exact HB.out | apply below_alloc | apply pw_below_drewN | apply below_drew1 | apply below_bytes | refine below_set ?_ GE201.out) | exact HB.out))) : w.heap.size ≤ gb231))
                          have n7_ := Aside0.mk ((by rw [hg]; exact Nat.ne_of_lt (blk_lt (g := gb201) (o := .cells #[.int .i64 x202000_2, .int .i64 x202001_2, .int .i64 x202002_2] 25 (0, 0)) (by (with_reducible repeat (first | refine blk_drewN ?_ _ | refine blk_drew ?_ | refine blk_alloc ?_ _ | refine blk_bytes ?_ _ _)); exact BK201.out)) : gb201 ≠ gb231))
                          have n8_ := Aside0.mk ((by rw [hg]; exact Nat.ne_of_gt (blk_lt (g := gb201) (o := .cells #[.int .i64 x202000_2, .int .i64 x202001_2, .int .i64 x202002_2] 25 (0, 0)) (by (with_reducible repeat (first | refine blk_drewN ?_ _ | refine blk_drew ?_ | refine blk_alloc ?_ _ | refine blk_bytes ?_ _ _)); exact BK201.out)) : gb231 ≠ gb201))
                          clear HO_4
                          clear HO_6
                          clear BK201
                          clear HB
                          have HO_4 := n0_
                          have HO_6 := n1_
                          have BK201 := n2_
                          have HB := n3_
                          have BK231 := n4_
                          have GW231 := n5_
                          have GE231 := n6_
                          have NB201_231 := n7_
                          have NB231_201 := n8_
                          clear n0_ n1_ n2_ n3_ n4_ n5_ n6_ n7_ n8_
                          clear hb hbox hg
                          refine hK.out _ _ ⟨(blk_cell BK201.out 0).trans rfl, (blk_cell BK201.out 1).trans rfl, (blk_cell BK201.out 2).trans rfl, HS3_⟩ (fun hHeld => ?_)
                          clear hK K
                          refine norm_ (a' := ?_) ?_ ?_
                          rotate_left
                          · show Act.put _ (some 8) _ = _
                            simp only [Act.put, List.setIfInBounds_toArray, List.set_cons_zero, List.set_cons_succ, i64_w, i32_w]
                            rfl
                          refine one_ (i := 5) (N := some 54) #[true, true, true, true, true, true, false, false, false, true, false, false] rfl rfl (one_of HT_.out (by kernel_rfl)) (by decide) (fun K hK => ?_)
                          refine goes_ Try.func7 (by kernel_rfl) rfl #[.agg #[.int .i64 x202000_2, .int .i64 x202001_2, .int .i64 x202002_2], .int .u8 (rd t198 x27_2)] (by rfl) rfl rfl (by (try simp only [List.map_toArray, List.map_cons, List.map_nil]); first | done | rfl | (simp only [List.length_drop, List.length_take]; rfl)) ?_
                          with_reducible refine (utfd_Step.calls k2 x202000_2 x202001_2 x202002_2 (rd t198 x27_2) t225 t226 t227 t228 _ A42.out).mono ?_
                          rintro e w46 ⟨v229, rfl, ho0, hb⟩
                          have HS3_ := (hb.cell (World.block_lt_of_cell? _ _ (hHeld.2.2.2))).trans (hHeld.2.2.2)
                          refine ⟨_, rfl, ?_⟩
                          have n0_ := Aside0.mk (Kd.R_below (by (with_reducible repeat (first | apply Kd.R_alloc | apply Kd.R_drewN | apply Kd.R_drew | apply Kd.R_bytes)); exact HO_4.out) hb)
                          have n1_ := Aside0.mk (Kd.R_elder' (by (with_reducible repeat (first | apply Kd.R_alloc | apply Kd.R_drewN | apply Kd.R_drew | apply Kd.R_bytes)); exact HO_6.out) (Kd.R_base ho0) hb)
                          have n2_ := Aside0.mk (Kd.R_lower (Kd.R_new' ho0 (Kd.R_lt (by (with_reducible repeat (first | apply Kd.R_alloc | apply Kd.R_drewN | apply Kd.R_drew | apply Kd.R_bytes)); exact HO_6.out))) (below_size (by repeat (first | (with_reducible first | exact HB.out | apply below_alloc | apply pw_below_drewN | apply below_drew1 | apply below_bytes | refine below_set ?_ GE201.out | refine below_set ?_ GE231.out) | exact HB.out))))
                          have n3_ := Aside0.mk (blk_below (g := gb201) (o := .cells #[.int .i64 x202000_2, .int .i64 x202001_2, .int .i64 x202002_2] 25 (0, 0)) (by (with_reducible repeat (first | refine blk_drewN ?_ _ | refine blk_drew ?_ | refine blk_alloc ?_ _ | refine blk_bytes ?_ _ _)); exact BK201.out) hb)
                          have n4_ := Aside0.mk (blk_below (g := gb231) (o := .cells #[.int .i64 0, .int .i64 0, .int .i64 0] 25 (0, 0)) (by (with_reducible repeat (first | refine blk_drewN ?_ _ | refine blk_drew ?_ | refine blk_alloc ?_ _ | refine blk_bytes ?_ _ _)); exact BK231.out) hb)
                          have n5_ := Aside0.mk (below_step (by repeat (first | (with_reducible first | exact HB.out | apply below_alloc | apply pw_below_drewN | apply below_drew1 | apply below_bytes | refine below_set ?_ GE201.out | refine below_set ?_ GE231.out) | exact HB.out)) hb)
                          clear HO_4
                          clear HO_6
                          clear BK201
                          clear BK231
                          clear HB
                          have HO_4 := n0_
                          have HO_6 := n1_
                          have HO230 := n2_
                          have BK201 := n3_
                          have BK231 := n4_
                          have HB := n5_
                          clear n0_ n1_ n2_ n3_ n4_ n5_
                          (try clear hb)
                          (try clear hb2)
                          (try clear hk)
                          (try clear hi)
                          (try clear ho0)
                          refine hK.out _ _ ⟨(blk_cell BK201.out 0).trans rfl, (blk_cell BK201.out 1).trans rfl, (blk_cell BK201.out 2).trans rfl, HS3_⟩ (fun hHeld => ?_)
                          clear hK K
                          refine norm_ (a' := ?_) ?_ ?_
                          rotate_left
                          · show Act.put _ (some 54) _ = _
                            simp only [Act.put, List.setIfInBounds_toArray, List.set_cons_zero, List.set_cons_succ, i64_w, i32_w]
                            rfl
                          refine pure_ (i := 6) (N := some 48) (v := ?_) (a' := ?_) #[true, true, true, true, true, true, true, false, false, true, false, false] rfl rfl (any_of HT_.out (by kernel_rfl)) (fun _ _ _ h => h) (Or.inl ⟨by rfl, ?_⟩) ?_ ?_
                          rotate_left
                          · intro w'
                            go_simp
                            with_reducible rfl
                          rotate_left
                          · simp only [Act.put, List.setIfInBounds_toArray, List.set_cons_zero, List.set_cons_succ, i64_w, i32_w]
                            rfl
                          refine pure_ (i := 7) (N := some 55) (v := ?_) (a' := ?_) #[true, true, true, true, true, true, true, true, false, true, false, false] rfl rfl (any_of HT_.out (by kernel_rfl)) (fun _ _ _ h => h) (Or.inl ⟨by rfl, ?_⟩) ?_ ?_
                          rotate_left
                          · intro w'
                            go_simp
                            with_reducible rfl
                          rotate_left
                          · simp only [Act.put, List.setIfInBounds_toArray, List.set_cons_zero, List.set_cons_succ, i64_w, i32_w]
                            rfl
                          refine pure_ (i := 8) (N := some 56) (v := ?_) (a' := ?_) #[true, true, true, true, true, true, true, true, true, true, false, false] rfl rfl (any_of HT_.out (by kernel_rfl)) (fun _ _ _ h => h) (Or.inl ⟨by rfl, ?_⟩) ?_ ?_
                          rotate_left
                          · intro w'
                            go_simp
                            with_reducible rfl
                          rotate_left
                          · simp only [Act.put, List.setIfInBounds_toArray, List.set_cons_zero, List.set_cons_succ, i64_w, i32_w]
                            rfl
                          exact norm_ (by simp only [putAll, Act.put, List.setIfInBounds_toArray, List.set_cons_zero, List.set_cons_succ]) (hCont (v229, gb231) _ ⟨hHeld, (by (with_reducible repeat (first | apply Kd.R_alloc | apply Kd.R_drewN | apply Kd.R_drew | apply Kd.R_bytes)); exact Kd.R_mono HO230.out (fun _ hk => hk.2)), (by (with_reducible repeat (first | apply Kd.R_alloc | apply Kd.R_drewN | apply Kd.R_drew | apply Kd.R_bytes)); exact HO_4.out), (by (with_reducible repeat (first | apply Kd.R_alloc | apply Kd.R_drewN | apply Kd.R_drew | apply Kd.R_bytes)); exact Kd.R_mono HO_6.out (fun _ hk => hk.2)), (by (with_reducible repeat (first | refine blk_drewN ?_ _ | refine blk_drew ?_ | refine blk_alloc ?_ _ | refine blk_bytes ?_ _ _)); exact BK201.out), (by (with_reducible repeat (first | refine blk_drewN ?_ _ | refine blk_drew ?_ | refine blk_alloc ?_ _ | refine blk_bytes ?_ _ _)); exact BK231.out), GW231.out, GE231.out, NB201_231.out, NB231_201.out, (by repeat (first | (with_reducible first | exact HB.out | apply below_alloc | apply pw_below_drewN | apply below_drew1 | apply below_bytes | refine below_set ?_ GE201.out | refine below_set ?_ GE231.out) | exact HB.out))⟩)
                      rintro ⟨v229, gb231⟩ w47 ⟨hS_, h0_, h1_, h2_, h3_, h4_, h5_, h6_, h7_, h8_, h9_⟩
                      have n0_ : Aside0 (Kd.R (Kd.int .i32) 21 w47 w.heap.size (fun k_ => some k_ ≠ (u6 : Value).ownBlock) v229 t228) := ⟨h0_⟩
                      have n1_ : Aside0 (Kd.R (Kd.int .u8) 5 w47 w.heap.size (fun _ => True) (.slice (some ad224) t198.length co11) t198) := ⟨h1_⟩
                      have n2_ : Aside0 (Kd.R (Kd.int .i32) 21 w47 w.heap.size (fun k_ => some k_ ≠ (v229 : Value).ownBlock) u6 x6_2) := ⟨h2_⟩
                      have n3_ : Aside0 (w47.heap[gb201]? = some (.cells #[.int .i64 x202000_2, .int .i64 x202001_2, .int .i64 x202002_2] 25 (0, 0))) := ⟨h3_⟩
                      have n4_ : Aside0 (w47.heap[gb231]? = some (.cells #[.int .i64 0, .int .i64 0, .int .i64 0] 25 (0, 0))) := ⟨h4_⟩
                      have n5_ : Aside0 (w.heap.size ≤ gb231) := ⟨h5_⟩
                      have n6_ : Aside0 (w.heap.size ≤ gb231) := ⟨h6_⟩
                      have n7_ : Aside0 (gb201 ≠ gb231) := ⟨h7_⟩
                      have n8_ : Aside0 (gb231 ≠ gb201) := ⟨h8_⟩
                      have n9_ : Aside0 (Below w.heap.size w w47) := ⟨h9_⟩
                      clear HO_4
                      clear HO_6
                      clear BK201
                      clear HB
                      clear h0_ h1_ h2_ h3_ h4_ h5_ h6_ h7_ h8_ h9_
                      have HO230 := n0_
                      have HO_4 := n1_
                      have HO_6 := n2_
                      have BK201 := n3_
                      have BK231 := n4_
                      have GW231 := n5_
                      have GE231 := n6_
                      have NB201_231 := n7_
                      have NB231_201 := n8_
                      have HB := n9_
                      clear n0_ n1_ n2_ n3_ n4_ n5_ n6_ n7_ n8_ n9_
                      have hHeld : w47.cell? ⟨gb201, 0, none⟩ = some (.int .i64 x202000_2) ∧ w47.cell? ⟨gb201, 1, none⟩ = some (.int .i64 x202001_2) ∧ w47.cell? ⟨gb201, 2, none⟩ = some (.int .i64 x202002_2) ∧ w47.cell? (ad224.add (x27_2).toNat) = some (.int .u8 (rd t198 x27_2)) := hS_
                      refine norm_ (a' := ?_) ?_ ?_
                      rotate_left
                      · simp only [putAll, Act.put, List.setIfInBounds_toArray, List.set_cons_zero, List.set_cons_succ]
                        rfl
                      refine one_ (i := 10) (N := none) #[true, true, true, true, true, true, true, true, true, true, true, false] rfl rfl (one_of HT_.out (by kernel_rfl)) (by decide) (fun K hK => ?_)
                      have hs48 : w47.cell? ⟨gb231, 0, none⟩ = some (.int .i64 0) := (blk_cell BK231.out 0).trans rfl
                      have hfs48 := blk_frozen BK231.out 0
                      have hns48_0 := NB201_231.out
                      have hms48_0 := NB231_201.out
                      have hs49 : w47.cell? ⟨gb231, 1, none⟩ = some (.int .i64 0) := (blk_cell BK231.out 1).trans rfl
                      have hfs49 := blk_frozen BK231.out 1
                      have hns49_0 := NB201_231.out
                      have hms49_0 := NB231_201.out
                      have hs50 : w47.cell? ⟨gb231, 2, none⟩ = some (.int .i64 0) := (blk_cell BK231.out 2).trans rfl
                      have hfs50 := blk_frozen BK231.out 2
                      have hns50_0 := NB201_231.out
                      have hms50_0 := NB231_201.out
                      refine skip_ (w1 := ?_) (by rfl) rfl ?_ ?_
                      rotate_left
                      · go_simp
                        rfl
                      refine hK.out _ _ ⟨((cell_far (p := ⟨gb231, _, none⟩) NB201_231.out _).trans (((cell_far (p := ⟨gb231, _, none⟩) NB201_231.out _).trans (((cell_far (p := ⟨gb231, _, none⟩) NB201_231.out _).trans (hHeld.1)))))), ((cell_far (p := ⟨gb231, _, none⟩) NB201_231.out _).trans (((cell_far (p := ⟨gb231, _, none⟩) NB201_231.out _).trans (((cell_far (p := ⟨gb231, _, none⟩) NB201_231.out _).trans (hHeld.2.1)))))), ((cell_far (p := ⟨gb231, _, none⟩) NB201_231.out _).trans (((cell_far (p := ⟨gb231, _, none⟩) NB201_231.out _).trans (((cell_far (p := ⟨gb231, _, none⟩) NB201_231.out _).trans (hHeld.2.2.1)))))), ((cell_far (p := ⟨gb231, _, none⟩) (by first | exact Kd.own_blk (Kd.R_ne HO_4.out BK231.out (by decide)) | (rw [add_block]; exact Kd.own_blk (Kd.R_ne HO_4.out BK231.out (by decide))) | (show (Addr.add _ _).block ≠ _; rw [add_block]; exact Kd.own_blk (Kd.R_ne HO_4.out BK231.out (by decide))) | (dsimp only; exact Kd.own_blk (Kd.R_ne HO_4.out BK231.out (by decide)))) _).trans (((cell_far (p := ⟨gb231, _, none⟩) (by first | exact Kd.own_blk (Kd.R_ne HO_4.out BK231.out (by decide)) | (rw [add_block]; exact Kd.own_blk (Kd.R_ne HO_4.out BK231.out (by decide))) | (show (Addr.add _ _).block ≠ _; rw [add_block]; exact Kd.own_blk (Kd.R_ne HO_4.out BK231.out (by decide))) | (dsimp only; exact Kd.own_blk (Kd.R_ne HO_4.out BK231.out (by decide)))) _).trans (((cell_far (p := ⟨gb231, _, none⟩) (by first | exact Kd.own_blk (Kd.R_ne HO_4.out BK231.out (by decide)) | (rw [add_block]; exact Kd.own_blk (Kd.R_ne HO_4.out BK231.out (by decide))) | (show (Addr.add _ _).block ≠ _; rw [add_block]; exact Kd.own_blk (Kd.R_ne HO_4.out BK231.out (by decide))) | (dsimp only; exact Kd.own_blk (Kd.R_ne HO_4.out BK231.out (by decide)))) _).trans (hHeld.2.2.2))))))⟩ (fun hHeld => ?_)
                      clear hK K
                      refine pure_ (i := 11) (N := some 9) (v := ?_) (a' := ?_) #[true, true, true, true, true, true, true, true, true, true, true, true] rfl rfl (any_of HT_.out (by kernel_rfl)) (fun _ _ _ h => h) (Or.inl ⟨by rfl, ?_⟩) ?_ ?_
                      rotate_left
                      · intro w'
                        go_simp
                        with_reducible rfl
                      rotate_left
                      · simp only [Act.put, List.setIfInBounds_toArray, List.set_cons_zero, List.set_cons_succ, i64_w, i32_w]
                        rfl
                      refine done_ (done_of HT_.out (by kernel_rfl)) ?_
                      try go_wp2
                      have n0_ : Aside0 (Kd.R (Kd.int .u8) 5 (((w47.setCell ⟨gb231, 0, none⟩ (.int .i64 t225)).setCell ⟨gb231, 1, none⟩ (.int .i64 t226)).setCell ⟨gb231, 2, none⟩ (.int .i64 t227)) w.heap.size (fun _ => True) (.slice (some ad224) t198.length co11) t198) := ⟨by (with_reducible repeat (first | apply Kd.R_alloc | apply Kd.R_drewN | apply Kd.R_drew | apply Kd.R_bytes)); exact Kd.R_mono (Kd.R_far (p := ⟨gb231, 2, none⟩) (Kd.R_far (p := ⟨gb231, 1, none⟩) (Kd.R_far (p := ⟨gb231, 0, none⟩) (Kd.R_types HO_4.out BK231.out (by decide)) (fun _ hk => hk.2) (.int .i64 t225)) (fun _ hk => hk.2) (.int .i64 t226)) (fun _ hk => hk.2) (.int .i64 t227)) (fun _ hk => trivial)⟩
                      have n1_ : Aside0 (Kd.R (Kd.int .i32) 21 (((w47.setCell ⟨gb231, 0, none⟩ (.int .i64 t225)).setCell ⟨gb231, 1, none⟩ (.int .i64 t226)).setCell ⟨gb231, 2, none⟩ (.int .i64 t227)) w.heap.size (fun k_ => some k_ ≠ (v229 : Value).ownBlock) u6 x6_2) := ⟨by (with_reducible repeat (first | apply Kd.R_alloc | apply Kd.R_drewN | apply Kd.R_drew | apply Kd.R_bytes)); exact Kd.R_mono (Kd.R_far (p := ⟨gb231, 2, none⟩) (Kd.R_far (p := ⟨gb231, 1, none⟩) (Kd.R_far (p := ⟨gb231, 0, none⟩) (Kd.R_types HO_6.out BK231.out (by decide)) (fun _ hk => hk.2) (.int .i64 t225)) (fun _ hk => hk.2) (.int .i64 t226)) (fun _ hk => hk.2) (.int .i64 t227)) (fun _ hk => hk.1)⟩
                      have n2_ : Aside0 (Kd.R (Kd.int .i32) 21 (((w47.setCell ⟨gb231, 0, none⟩ (.int .i64 t225)).setCell ⟨gb231, 1, none⟩ (.int .i64 t226)).setCell ⟨gb231, 2, none⟩ (.int .i64 t227)) w.heap.size (fun k_ => some k_ ≠ (u6 : Value).ownBlock) v229 t228) := ⟨by (with_reducible repeat (first | apply Kd.R_alloc | apply Kd.R_drewN | apply Kd.R_drew | apply Kd.R_bytes)); exact Kd.R_mono (Kd.R_far (p := ⟨gb231, 2, none⟩) (Kd.R_far (p := ⟨gb231, 1, none⟩) (Kd.R_far (p := ⟨gb231, 0, none⟩) (Kd.R_types HO230.out BK231.out (by decide)) (fun _ hk => hk.2) (.int .i64 t225)) (fun _ hk => hk.2) (.int .i64 t226)) (fun _ hk => hk.2) (.int .i64 t227)) (fun _ hk => hk.1)⟩
                      have n3_ : Aside0 ((((w47.setCell ⟨gb231, 0, none⟩ (.int .i64 t225)).setCell ⟨gb231, 1, none⟩ (.int .i64 t226)).setCell ⟨gb231, 2, none⟩ (.int .i64 t227)).heap[gb201]? = some (.cells #[.int .i64 x202000_2, .int .i64 x202001_2, .int .i64 x202002_2] 25 (0, 0))) := ⟨by (with_reducible repeat (first | refine blk_drewN ?_ _ | refine blk_drew ?_ | refine blk_alloc ?_ _ | refine blk_bytes ?_ _ _)); refine blk_far ?_ NB201_231.out _; (with_reducible repeat (first | refine blk_drewN ?_ _ | refine blk_drew ?_ | refine blk_alloc ?_ _ | refine blk_bytes ?_ _ _)); refine blk_far ?_ NB201_231.out _; (with_reducible repeat (first | refine blk_drewN ?_ _ | refine blk_drew ?_ | refine blk_alloc ?_ _ | refine blk_bytes ?_ _ _)); refine blk_far ?_ NB201_231.out _; (with_reducible repeat (first | refine blk_drewN ?_ _ | refine blk_drew ?_ | refine blk_alloc ?_ _ | refine blk_bytes ?_ _ _)); exact BK201.out⟩
                      have n4_ : Aside0 ((((w47.setCell ⟨gb231, 0, none⟩ (.int .i64 t225)).setCell ⟨gb231, 1, none⟩ (.int .i64 t226)).setCell ⟨gb231, 2, none⟩ (.int .i64 t227)).heap[gb231]? = some (.cells #[.int .i64 t225, .int .i64 t226, .int .i64 t227] 25 (0, 0))) := ⟨by (with_reducible repeat (first | refine blk_drewN ?_ _ | refine blk_drew ?_ | refine blk_alloc ?_ _ | refine blk_bytes ?_ _ _)); refine blk_put (cs := #[.int .i64 t225, .int .i64 t226, .int .i64 0]) ?_ 2 _ rfl; (with_reducible repeat (first | refine blk_drewN ?_ _ | refine blk_drew ?_ | refine blk_alloc ?_ _ | refine blk_bytes ?_ _ _)); refine blk_put (cs := #[.int .i64 t225, .int .i64 0, .int .i64 0]) ?_ 1 _ rfl; (with_reducible repeat (first | refine blk_drewN ?_ _ | refine blk_drew ?_ | refine blk_alloc ?_ _ | refine blk_bytes ?_ _ _)); refine blk_put (cs := #[.int .i64 0, .int .i64 0, .int .i64 0]) ?_ 0 _ rfl; (with_reducible repeat (first | refine blk_drewN ?_ _ | refine blk_drew ?_ | refine blk_alloc ?_ _ | refine blk_bytes ?_ _ _)); exact BK231.out⟩
                      have n5_ : Aside0 (Below w.heap.size w (((w47.setCell ⟨gb231, 0, none⟩ (.int .i64 t225)).setCell ⟨gb231, 1, none⟩ (.int .i64 t226)).setCell ⟨gb231, 2, none⟩ (.int .i64 t227))) := ⟨by repeat (first | (with_reducible first | exact HB.out | apply below_alloc | apply pw_below_drewN | apply below_drew1 | apply below_bytes | refine below_set ?_ GE201.out | refine below_set ?_ GE231.out) | exact HB.out)⟩
                      (try clear HO_4)
                      (try clear HO_6)
                      (try clear HO230)
                      (try clear BK201)
                      (try clear BK231)
                      (try clear HB)
                      generalize (((w47.setCell ⟨gb231, 0, none⟩ (.int .i64 t225)).setCell ⟨gb231, 1, none⟩ (.int .i64 t226)).setCell ⟨gb231, 2, none⟩ (.int .i64 t227)) = w51 at n0_ n1_ n2_ n3_ n4_ n5_ ⊢
                      have HO_4 := n0_
                      have HO_6 := n1_
                      have HO230 := n2_
                      have BK201 := n3_
                      have BK231 := n4_
                      have HB := n5_
                      clear n0_ n1_ n2_ n3_ n4_ n5_
                      have n0_ := Aside0.mk (Kd.R_drew HO_4.out)
                      have n1_ := Aside0.mk (Kd.R_drew HO_6.out)
                      have n2_ := Aside0.mk (Kd.R_drew HO230.out)
                      have n3_ := Aside0.mk (blk_drew BK201.out)
                      have n4_ := Aside0.mk (blk_drew BK231.out)
                      have n5_ := Aside0.mk (below_drew1 HB.out)
                      clear HO_4
                      clear HO_6
                      clear HO230
                      clear BK201
                      clear BK231
                      clear HB
                      have HO_4 := n0_
                      have HO_6 := n1_
                      have HO230 := n2_
                      have BK201 := n3_
                      have BK231 := n4_
                      have HB := n5_
                      clear n0_ n1_ n2_ n3_ n4_ n5_
                      obtain ⟨Ao54, co54, eo54⟩ := Kd.R_slice HO230.out
                      (first | subst eo54 | (injection eo54 with f1_ f2_ f3_; have f4_ := f1_.symm; have f5_ := f3_.symm; clear f1_ f2_ f3_; subst f4_; subst f5_))
                      refine start_ (n := 6) (S := fun w' => w'.cell? ⟨gb231, 0, none⟩ = some (.int .i64 t225) ∧ w'.cell? ⟨gb231, 1, none⟩ = some (.int .i64 t226) ∧ w'.cell? ⟨gb231, 2, none⟩ = some (.int .i64 t227)) (ds := []) #[false, false, false, false, false, false] (by kernel_rfl) rfl rfl ⟨(blk_cell BK231.out 0).trans rfl, (blk_cell BK231.out 1).trans rfl, (blk_cell BK231.out 2).trans rfl⟩ (fun hHeld => ?_)
                      generalize w51.drew = w52 at HO_4 HO_6 HO230 BK201 BK231 HB hHeld ⊢
                      refine pure_ (i := 1) (N := some 58) (v := ?_) (a' := ?_) #[false, true, false, false, false, false] rfl rfl (by kernel_rfl) (fun _ _ _ h => h) (Or.inl ⟨by rfl, ?_⟩) ?_ ?_
                      rotate_left
                      · intro w'
                        go_simp
                        with_reducible rfl
                      rotate_left
                      · simp only [Act.put, List.setIfInBounds_toArray, List.set_cons_zero, List.set_cons_succ, i64_w, i32_w]
                        rfl
                      refine pure_ (i := 2) (N := some 59) (v := ?_) (a' := ?_) #[false, true, true, false, false, false] rfl rfl (by kernel_rfl) (fun _ _ _ h => h) (Or.inl ⟨by rfl, ?_⟩) ?_ ?_
                      rotate_left
                      · intro w'
                        go_simp
                        with_reducible rfl
                      rotate_left
                      · simp only [Act.put, List.setIfInBounds_toArray, List.set_cons_zero, List.set_cons_succ, i64_w, i32_w]
                        rfl
                      refine take_ (i := 0) (N := some 57) (v := ?_) (a' := ?_) #[true, true, true, false, false, false] rfl rfl (by kernel_rfl) (fun _ _ _ h => h) (Or.inl ⟨by rfl, ?_⟩) hHeld ?_ ?_
                      rotate_left
                      · rintro w' ⟨s0, s1, s2⟩
                        go_simp
                        with_reducible rfl
                      rotate_left
                      · simp only [Act.put, List.setIfInBounds_toArray, List.set_cons_zero, List.set_cons_succ, i64_w, i32_w]
                        rfl
                      refine one_ (i := 3) (N := some 60) #[true, true, true, true, false, false] rfl rfl (by kernel_rfl) (by decide) (fun K hK => ?_)
                      refine Kd.R_append_rows_step (Kd.int .i32) (w0 := w) w.heap.size (by rfl) (.tmp 58) (.tmp 59) 26 21 (.int .i32 0) 4 rfl Try.underlying26 info21 rfl (by decide) (by omega) u6 x6_2 t228 _ _ _ (fun k_ => some k_ ≠ (.slice Ao54 t228.length co54 : Value).ownBlock) (fun _ => False) rfl rfl ?aO ?aR (fun _ _ h => h) (fun _ h => h.elim) ?aF ?aB ?aS ?aL ?_
                      (case aR => repeat (first | exact (Kd.R_reads' HO230.out).2.2 | (with_reducible refine Kd.C_alloc ?_ _) | (with_reducible refine Kd.C_drewN ?_ _) | (with_reducible refine Kd.C_drew ?_)))
                      (case aB => exact (by repeat (first | (with_reducible first | exact HB.out | apply below_alloc | apply pw_below_drewN | apply below_drew1 | apply below_bytes | refine below_set ?_ GE201.out | refine below_set ?_ GE231.out) | exact HB.out)))
                      (case aF => exact (fun k_ hk => Kd.fresh' (Kd.R_lt (by (with_reducible repeat (first | apply Kd.R_alloc | apply Kd.R_drewN | apply Kd.R_drew | apply Kd.R_bytes)); exact HO230.out)) k_ hk))
                      (case aO => exact (by (with_reducible repeat (first | apply Kd.R_alloc | apply Kd.R_drewN | apply Kd.R_drew | apply Kd.R_bytes)); exact HO_6.out))
                      (case aS => exact (below_size (by repeat (first | (with_reducible first | exact HB.out | apply below_alloc | apply pw_below_drewN | apply below_drew1 | apply below_bytes | refine below_set ?_ GE201.out | refine below_set ?_ GE231.out) | exact HB.out))))
                      (case aL => have := LMc43.out; omega)
                      intro v233 w53 ho hb hg hat
                      rw [← Ny232.out] at ho
                      have n0_ := Aside0.mk (Kd.R_over' (by (with_reducible repeat (first | apply Kd.R_alloc | apply Kd.R_drewN | apply Kd.R_drew | apply Kd.R_bytes)); exact HO_4.out) (Kd.R_typed (by (with_reducible repeat (first | apply Kd.R_alloc | apply Kd.R_drewN | apply Kd.R_drew | apply Kd.R_bytes)); exact HO_6.out)) (by decide) hg)
                      have n1_ := Aside0.mk (blk_grown (g := gb201) (o := .cells #[.int .i64 x202000_2, .int .i64 x202001_2, .int .i64 x202002_2] 25 (0, 0)) (by (with_reducible repeat (first | refine blk_drewN ?_ _ | refine blk_drew ?_ | refine blk_alloc ?_ _ | refine blk_bytes ?_ _ _)); exact BK201.out) hg (Kd.R_ne HO_6.out BK201.out (by decide)))
                      have n2_ := Aside0.mk (Kd.R_after (ok := (fun _ => True)) (by (with_reducible repeat (first | apply Kd.R_alloc | apply Kd.R_drewN | apply Kd.R_drew | apply Kd.R_bytes)); exact Kd.R_mono HO230.out (fun _ hk => ⟨trivial, hk⟩)) hg hat)
                      have n3_ := Aside0.mk (blk_grown (g := gb231) (o := .cells #[.int .i64 t225, .int .i64 t226, .int .i64 t227] 25 (0, 0)) (by (with_reducible repeat (first | refine blk_drewN ?_ _ | refine blk_drew ?_ | refine blk_alloc ?_ _ | refine blk_bytes ?_ _ _)); exact BK231.out) hg (Kd.R_ne HO_6.out BK231.out (by decide)))
                      have n4_ := Aside0.mk (hb)
                      have n5_ := Aside0.mk (ho)
                      clear HO_4
                      clear BK201
                      clear HO230
                      clear BK231
                      clear HB
                      clear HO_6
                      have HO_4 := n0_
                      have BK201 := n1_
                      have HO230 := n2_
                      have BK231 := n3_
                      have HB := n4_
                      have HO234 := n5_
                      clear n0_ n1_ n2_ n3_ n4_ n5_
                      clear ho hb hg hat
                      refine hK.out _ _ ⟨(blk_cell BK231.out 0).trans rfl, (blk_cell BK231.out 1).trans rfl, (blk_cell BK231.out 2).trans rfl⟩ (fun hHeld => ?_)
                      clear hK K
                      refine norm_ (a' := ?_) ?_ ?_
                      rotate_left
                      · show Act.put _ (some 60) _ = _
                        simp only [Act.put, List.setIfInBounds_toArray, List.set_cons_zero, List.set_cons_succ, i64_w, i32_w]
                        rfl
                      refine one_ (i := 4) (N := none) #[true, true, true, true, true, false] rfl rfl (by kernel_rfl) (by decide) (fun K hK => ?_)
                      have hs55 : w53.cell? ⟨gb201, 0, none⟩ = some (.int .i64 x202000_2) := (blk_cell BK201.out 0).trans rfl
                      have hfs55 := blk_frozen BK201.out 0
                      have hns55_1 := NB231_201.out
                      have hms55_1 := NB201_231.out
                      have hs56 : w53.cell? ⟨gb201, 1, none⟩ = some (.int .i64 x202001_2) := (blk_cell BK201.out 1).trans rfl
                      have hfs56 := blk_frozen BK201.out 1
                      have hns56_1 := NB231_201.out
                      have hms56_1 := NB201_231.out
                      have hs57 : w53.cell? ⟨gb201, 2, none⟩ = some (.int .i64 x202002_2) := (blk_cell BK201.out 2).trans rfl
                      have hfs57 := blk_frozen BK201.out 2
                      have hns57_1 := NB231_201.out
                      have hms57_1 := NB201_231.out
                      refine skip_ (w1 := ?_) (by rfl) rfl ?_ ?_
                      rotate_left
                      · go_simp
                        rfl
                      refine hK.out _ _ ⟨((cell_far (p := ⟨gb201, _, none⟩) NB231_201.out _).trans (((cell_far (p := ⟨gb201, _, none⟩) NB231_201.out _).trans (((cell_far (p := ⟨gb201, _, none⟩) NB231_201.out _).trans (hHeld.1)))))), ((cell_far (p := ⟨gb201, _, none⟩) NB231_201.out _).trans (((cell_far (p := ⟨gb201, _, none⟩) NB231_201.out _).trans (((cell_far (p := ⟨gb201, _, none⟩) NB231_201.out _).trans (hHeld.2.1)))))), ((cell_far (p := ⟨gb201, _, none⟩) NB231_201.out _).trans (((cell_far (p := ⟨gb201, _, none⟩) NB231_201.out _).trans (((cell_far (p := ⟨gb201, _, none⟩) NB231_201.out _).trans (hHeld.2.2))))))⟩ (fun hHeld => ?_)
                      clear hK K
                      refine pure_ (i := 5) (N := some 6) (v := ?_) (a' := ?_) #[true, true, true, true, true, true] rfl rfl (by kernel_rfl) (fun _ _ _ h => h) (Or.inl ⟨by rfl, ?_⟩) ?_ ?_
                      rotate_left
                      · intro w'
                        go_simp
                        with_reducible rfl
                      rotate_left
                      · simp only [Act.put, List.setIfInBounds_toArray, List.set_cons_zero, List.set_cons_succ, i64_w, i32_w]
                        rfl
                      refine done_ (by kernel_rfl) ?_
                      try go_wp2
                      go_roundg k2
                      case measure => have := HJ2.out; have := HK2.out; omega
                      case rel => exact ⟨(y232), (wrap64 (x27_2 + 1)), (t225), (t226), (t227), (by first | rfl | (simp; done) | (simp [*]; done)), H', ⟨by have := HJ2.out; have := HK2.out; omega⟩, ⟨by (with_reducible repeat (first | apply Kd.R_alloc | apply Kd.R_drewN | apply Kd.R_drew | apply Kd.R_bytes)); exact Kd.R_mono (Kd.R_far (p := ⟨gb201, 2, none⟩) (Kd.R_far (p := ⟨gb201, 1, none⟩) (Kd.R_far (p := ⟨gb201, 0, none⟩) (Kd.R_types HO_4.out BK201.out (by decide)) (fun _ hk => hk.2) (.int .i64 t225)) (fun _ hk => hk.2) (.int .i64 t226)) (fun _ hk => hk.2) (.int .i64 t227)) (fun _ hk => trivial)⟩, ⟨by (with_reducible repeat (first | apply Kd.R_alloc | apply Kd.R_drewN | apply Kd.R_drew | apply Kd.R_bytes)); exact Kd.R_mono (Kd.R_far (p := ⟨gb201, 2, none⟩) (Kd.R_far (p := ⟨gb201, 1, none⟩) (Kd.R_far (p := ⟨gb201, 0, none⟩) (Kd.R_types HO234.out BK201.out (by decide)) (fun _ hk => hk.2) (.int .i64 t225)) (fun _ hk => hk.2) (.int .i64 t226)) (fun _ hk => hk.2) (.int .i64 t227)) (fun _ hk => trivial)⟩, ⟨by (with_reducible repeat (first | refine blk_drewN ?_ _ | refine blk_drew ?_ | refine blk_alloc ?_ _ | refine blk_bytes ?_ _ _)); refine blk_put (cs := #[.int .i64 t225, .int .i64 t226, .int .i64 x202002_2]) ?_ 2 _ rfl; (with_reducible repeat (first | refine blk_drewN ?_ _ | refine blk_drew ?_ | refine blk_alloc ?_ _ | refine blk_bytes ?_ _ _)); refine blk_put (cs := #[.int .i64 t225, .int .i64 x202001_2, .int .i64 x202002_2]) ?_ 1 _ rfl; (with_reducible repeat (first | refine blk_drewN ?_ _ | refine blk_drew ?_ | refine blk_alloc ?_ _ | refine blk_bytes ?_ _ _)); refine blk_put (cs := #[.int .i64 x202000_2, .int .i64 x202001_2, .int .i64 x202002_2]) ?_ 0 _ rfl; (with_reducible repeat (first | refine blk_drewN ?_ _ | refine blk_drew ?_ | refine blk_alloc ?_ _ | refine blk_bytes ?_ _ _)); exact BK201.out⟩, ⟨by repeat (first | (with_reducible first | exact HB.out | apply below_alloc | apply pw_below_drewN | apply below_drew1 | apply below_bytes | refine below_set ?_ GE201.out | refine below_set ?_ GE231.out) | exact HB.out)⟩⟩
                    · rw [if_neg c43] at H
                      exact absurd H (by simp)
                  · rw [if_neg c41] at H
                    exact absurd H (by simp)
                · rw [if_neg c40] at H
                  exact absurd H (by simp)
            · rw [if_neg c12] at H
              have c12b0 : decide (x27_2 < (t198.length : Int)) = false := decide_eq_false c12
              clear c12
              by_cases c58 : (wrap32 (Go.bits .and .i64 a0 2097151)) > 1114111
              · rw [if_pos c58] at H
                have c58b0 : decide (1114111 < (wrap32 (Go.bits .and .i64 a0 2097151))) = true := decide_eq_true c58
                clear c58
                by_cases c59 : (x6_2.length : Int) = 1
                · rw [if_pos c59] at H
                  have c59b0 : ((x6_2.length : Int) == 1) = true := beq_iff_eq.mpr c59
                  have c59b1 : ((x6_2.length : Int) != 1) = false := bne_eq_false_iff_eq.mpr c59
                  clear c59
                  by_cases c60 : 0 < (x6_2.length : Int)
                  · rw [if_pos c60] at H
                    have c60b0 : decide (0 < (x6_2.length : Int)) = true := decide_eq_true c60
                    have c60b1 : decide (0 < x6_2.length) = true := decide_eq_true (by omega)
                    clear c60
                    by_cases c61 : (rd x6_2 0) = 65533
                    · rw [if_pos c61] at H
                      have c61b0 : ((rd x6_2 0) == 65533) = true := beq_iff_eq.mpr c61
                      have c61b1 : ((rd x6_2 0) != 65533) = false := bne_eq_false_iff_eq.mpr c61
                      clear c61
                      by_cases c62 : (x202000_2 == 0 && (x202001_2 == 0 && (x202002_2 == 0))) = true
                      · rw [if_pos c62] at H
                        have c62b0 : (x202000_2 == 0 && (x202001_2 == 0 && (x202002_2 == 0))) = true := c62
                        (try (have c62b1 : decide (x202000_2 = 0 && (x202001_2 == 0 && (x202002_2 == 0))) = true := by simpa using c62))
                        (try (have c62b2 : (x202000_2 == 0 && (x202001_2 == 0 && (x202002_2 == 0))) = true := by simpa using c62))
                        clear c62
                        by_cases c63 : (strOfNums t198).toList = (Utf8.encode 65533).toList
                        · rw [if_pos c63] at H
                          have c63b0 : ((strOfNums t198).toList == (Utf8.encode 65533).toList) = true := beq_iff_eq.mpr c63
                          have c63b1 : ((strOfNums t198).toList != (Utf8.encode 65533).toList) = false := bne_eq_false_iff_eq.mpr c63
                          clear c63
                          replace H := Option.bind_eq_some_iff.mp H
                          obtain ⟨t203, A640, H⟩ := H
                          replace H : (some t203) = some r := H
                          have A64 := Aside0.mk A640
                          clear A640
                          obtain rfl := Option.some.inj H
                          obtain ⟨Ao65, co65, eo65⟩ := Kd.R_slice HO_6.out
                          subst eo65
                          have p202 : 0 ≤ (0 : Int) := (by omega)
                          have q202 : 0 < (x6_2.length : Int) := of_decide_eq_true (by first | (with_reducible assumption) | assumption)
                          obtain ⟨ad202, e202, hx202_0⟩ := Kd.at_int (Kd.R_reads' HO_6.out).2.2 0 p202 q202
                          cases e202
                          have qi202 : (0 < x6_2.length) = True := eq_true (by omega)
                          (try rw [show ((0 : Int)).toNat = 0 from rfl] at hx202_0)
                          (try rw [Addr.add_zero'] at hx202_0)
                          replace p202 := eq_true p202
                          replace q202 := eq_true q202
                          have hcz66_0 : wr.cell? ⟨gb201, 0, none⟩ = some (.int .i64 x202000_2) := (blk_cell BK201.out 0).trans rfl
                          have hcz66_1 : wr.cell? ⟨gb201, 1, none⟩ = some (.int .i64 x202001_2) := (blk_cell BK201.out 1).trans rfl
                          have hcz66_2 : wr.cell? ⟨gb201, 2, none⟩ = some (.int .i64 x202002_2) := (blk_cell BK201.out 2).trans rfl
                          have hfz66_0 := blk_frozen BK201.out 0
                          have hfz66_1 := blk_frozen BK201.out 1
                          have hfz66_2 := blk_frozen BK201.out 2
                          have hcv67 := own_string (P := Try.prog) Try.underlying32 Try.underlying5 Try.underlying9 (Kd.own_of_R HO_4.out)
                          go_wp2_with (first | (go_at_call 9; (with_reducible refine (polyptychlaw1_awake.calls k2  t203 _ A64.out).mono ?_); rintro e w68 ⟨rfl, hb⟩; have n0_ := Aside0.mk (Kd.R_below (by (with_reducible repeat (first | apply Kd.R_alloc | apply Kd.R_drewN | apply Kd.R_drew | apply Kd.R_bytes)); exact HO_4.out) hb); have n1_ := Aside0.mk (Kd.R_below (by (with_reducible repeat (first | apply Kd.R_alloc | apply Kd.R_drewN | apply Kd.R_drew | apply Kd.R_bytes)); exact HO_6.out) hb); have n2_ := Aside0.mk (blk_below (g := gb201) (o := .cells #[.int .i64 x202000_2, .int .i64 x202001_2, .int .i64 x202002_2] 25 (0, 0)) (by (with_reducible repeat (first | refine blk_drewN ?_ _ | refine blk_drew ?_ | refine blk_alloc ?_ _ | refine blk_bytes ?_ _ _)); exact BK201.out) hb); have n3_ := Aside0.mk (below_step (by repeat (first | (with_reducible first | exact HB.out | apply below_alloc | apply pw_below_drewN | apply below_drew1 | apply below_bytes | refine below_set ?_ GE201.out) | exact HB.out)) hb); clear HO_4; clear HO_6; clear BK201; clear HB; have HO_4 := n0_; have HO_6 := n1_; have BK201 := n2_; have HB := n3_; clear n0_ n1_ n2_ n3_; (try clear hb); (try clear hb2); (try clear hk); (try clear hi)))
                          go_ret
                          exact ⟨by first | rfl | (simp [errW_none, errW_some] <;> rfl) | (simp [*, errW_none, errW_some] <;> rfl), by repeat (first | (with_reducible first | exact HB.out | apply below_alloc | apply pw_below_drewN | apply below_drew1 | apply below_bytes | refine below_set ?_ GE201.out) | exact HB.out)⟩
                        · rw [if_neg c63] at H
                          have c63b0 : ((strOfNums t198).toList == (Utf8.encode 65533).toList) = false := beq_eq_false_iff_ne.mpr c63
                          have c63b1 : ((strOfNums t198).toList != (Utf8.encode 65533).toList) = true := bne_iff_ne.mpr c63
                          exact absurd ((Option.some.inj H).trans hT_.out) (by decide)
                      · rw [if_neg c62] at H
                        have c62b0 : (x202000_2 == 0 && (x202001_2 == 0 && (x202002_2 == 0))) = false := by simpa using c62
                        (try (have c62b1 : decide (x202000_2 = 0 && (x202001_2 == 0 && (x202002_2 == 0))) = false := by simpa using c62))
                        (try (have c62b2 : (x202000_2 == 0 && (x202001_2 == 0 && (x202002_2 == 0))) = false := by simpa using c62))
                        (try (have c62b3 : ¬ (x202000_2 = 0 && (x202001_2 == 0 && (x202002_2 == 0))) := by simpa using c62))
                        clear c62
                        exact absurd ((Option.some.inj H).trans hT_.out) (by decide)
                    · rw [if_neg c61] at H
                      have c61b0 : ((rd x6_2 0) == 65533) = false := beq_eq_false_iff_ne.mpr c61
                      have c61b1 : ((rd x6_2 0) != 65533) = true := bne_iff_ne.mpr c61
                      exact absurd ((Option.some.inj H).trans hT_.out) (by decide)
                  · rw [if_neg c60] at H
                    exact absurd H (by simp)
                · rw [if_neg c59] at H
                  have c59b0 : ((x6_2.length : Int) == 1) = false := beq_eq_false_iff_ne.mpr c59
                  have c59b1 : ((x6_2.length : Int) != 1) = true := bne_iff_ne.mpr c59
                  exact absurd ((Option.some.inj H).trans hT_.out) (by decide)
              · rw [if_neg c58] at H
                have c58b0 : decide (1114111 < (wrap32 (Go.bits .and .i64 a0 2097151))) = false := decide_eq_false c58
                clear c58
                by_cases c69 : (wrap32 (Go.bits .and .i64 a0 2097151)) ≥ 55296
                · rw [if_pos c69] at H
                  have c69b0 : decide (55296 ≤ (wrap32 (Go.bits .and .i64 a0 2097151))) = true := decide_eq_true c69
                  clear c69
                  by_cases c70 : (wrap32 (Go.bits .and .i64 a0 2097151)) ≤ 57343
                  · rw [if_pos c70] at H
                    have c70b0 : decide ((wrap32 (Go.bits .and .i64 a0 2097151)) ≤ 57343) = true := decide_eq_true c70
                    clear c70
                    by_cases c71 : (x6_2.length : Int) = 1
                    · rw [if_pos c71] at H
                      have c71b0 : ((x6_2.length : Int) == 1) = true := beq_iff_eq.mpr c71
                      have c71b1 : ((x6_2.length : Int) != 1) = false := bne_eq_false_iff_eq.mpr c71
                      clear c71
                      by_cases c72 : 0 < (x6_2.length : Int)
                      · rw [if_pos c72] at H
                        have c72b0 : decide (0 < (x6_2.length : Int)) = true := decide_eq_true c72
                        have c72b1 : decide (0 < x6_2.length) = true := decide_eq_true (by omega)
                        clear c72
                        by_cases c73 : (rd x6_2 0) = 65533
                        · rw [if_pos c73] at H
                          have c73b0 : ((rd x6_2 0) == 65533) = true := beq_iff_eq.mpr c73
                          have c73b1 : ((rd x6_2 0) != 65533) = false := bne_eq_false_iff_eq.mpr c73
                          clear c73
                          by_cases c74 : (x202000_2 == 0 && (x202001_2 == 0 && (x202002_2 == 0))) = true
                          · rw [if_pos c74] at H
                            have c74b0 : (x202000_2 == 0 && (x202001_2 == 0 && (x202002_2 == 0))) = true := c74
                            (try (have c74b1 : decide (x202000_2 = 0 && (x202001_2 == 0 && (x202002_2 == 0))) = true := by simpa using c74))
                            (try (have c74b2 : (x202000_2 == 0 && (x202001_2 == 0 && (x202002_2 == 0))) = true := by simpa using c74))
                            clear c74
                            by_cases c75 : (strOfNums t198).toList = (Utf8.encode 65533).toList
                            · rw [if_pos c75] at H
                              have c75b0 : ((strOfNums t198).toList == (Utf8.encode 65533).toList) = true := beq_iff_eq.mpr c75
                              have c75b1 : ((strOfNums t198).toList != (Utf8.encode 65533).toList) = false := bne_eq_false_iff_eq.mpr c75
                              clear c75
                              replace H := Option.bind_eq_some_iff.mp H
                              obtain ⟨t205, A760, H⟩ := H
                              replace H : (some t205) = some r := H
                              have A76 := Aside0.mk A760
                              clear A760
                              obtain rfl := Option.some.inj H
                              obtain ⟨Ao77, co77, eo77⟩ := Kd.R_slice HO_6.out
                              subst eo77
                              have p204 : 0 ≤ (0 : Int) := (by omega)
                              have q204 : 0 < (x6_2.length : Int) := of_decide_eq_true (by first | (with_reducible assumption) | assumption)
                              obtain ⟨ad204, e204, hx204_0⟩ := Kd.at_int (Kd.R_reads' HO_6.out).2.2 0 p204 q204
                              cases e204
                              have qi204 : (0 < x6_2.length) = True := eq_true (by omega)
                              (try rw [show ((0 : Int)).toNat = 0 from rfl] at hx204_0)
                              (try rw [Addr.add_zero'] at hx204_0)
                              replace p204 := eq_true p204
                              replace q204 := eq_true q204
                              have hcz78_0 : wr.cell? ⟨gb201, 0, none⟩ = some (.int .i64 x202000_2) := (blk_cell BK201.out 0).trans rfl
                              have hcz78_1 : wr.cell? ⟨gb201, 1, none⟩ = some (.int .i64 x202001_2) := (blk_cell BK201.out 1).trans rfl
                              have hcz78_2 : wr.cell? ⟨gb201, 2, none⟩ = some (.int .i64 x202002_2) := (blk_cell BK201.out 2).trans rfl
                              have hfz78_0 := blk_frozen BK201.out 0
                              have hfz78_1 := blk_frozen BK201.out 1
                              have hfz78_2 := blk_frozen BK201.out 2
                              have hcv79 := own_string (P := Try.prog) Try.underlying32 Try.underlying5 Try.underlying9 (Kd.own_of_R HO_4.out)
                              go_wp2_with (first | (go_at_call 9; (with_reducible refine (polyptychlaw1_awake.calls k2  t205 _ A76.out).mono ?_); rintro e w80 ⟨rfl, hb⟩; have n0_ := Aside0.mk (Kd.R_below (by (with_reducible repeat (first | apply Kd.R_alloc | apply Kd.R_drewN | apply Kd.R_drew | apply Kd.R_bytes)); exact HO_4.out) hb); have n1_ := Aside0.mk (Kd.R_below (by (with_reducible repeat (first | apply Kd.R_alloc | apply Kd.R_drewN | apply Kd.R_drew | apply Kd.R_bytes)); exact HO_6.out) hb); have n2_ := Aside0.mk (blk_below (g := gb201) (o := .cells #[.int .i64 x202000_2, .int .i64 x202001_2, .int .i64 x202002_2] 25 (0, 0)) (by (with_reducible repeat (first | refine blk_drewN ?_ _ | refine blk_drew ?_ | refine blk_alloc ?_ _ | refine blk_bytes ?_ _ _)); exact BK201.out) hb); have n3_ := Aside0.mk (below_step (by repeat (first | (with_reducible first | exact HB.out | apply below_alloc | apply pw_below_drewN | apply below_drew1 | apply below_bytes | refine below_set ?_ GE201.out) | exact HB.out)) hb); clear HO_4; clear HO_6; clear BK201; clear HB; have HO_4 := n0_; have HO_6 := n1_; have BK201 := n2_; have HB := n3_; clear n0_ n1_ n2_ n3_; (try clear hb); (try clear hb2); (try clear hk); (try clear hi)))
                              go_ret
                              exact ⟨by first | rfl | (simp [errW_none, errW_some] <;> rfl) | (simp [*, errW_none, errW_some] <;> rfl), by repeat (first | (with_reducible first | exact HB.out | apply below_alloc | apply pw_below_drewN | apply below_drew1 | apply below_bytes | refine below_set ?_ GE201.out) | exact HB.out)⟩
                            · rw [if_neg c75] at H
                              have c75b0 : ((strOfNums t198).toList == (Utf8.encode 65533).toList) = false := beq_eq_false_iff_ne.mpr c75
                              have c75b1 : ((strOfNums t198).toList != (Utf8.encode 65533).toList) = true := bne_iff_ne.mpr c75
                              exact absurd ((Option.some.inj H).trans hT_.out) (by decide)
                          · rw [if_neg c74] at H
                            have c74b0 : (x202000_2 == 0 && (x202001_2 == 0 && (x202002_2 == 0))) = false := by simpa using c74
                            (try (have c74b1 : decide (x202000_2 = 0 && (x202001_2 == 0 && (x202002_2 == 0))) = false := by simpa using c74))
                            (try (have c74b2 : (x202000_2 == 0 && (x202001_2 == 0 && (x202002_2 == 0))) = false := by simpa using c74))
                            (try (have c74b3 : ¬ (x202000_2 = 0 && (x202001_2 == 0 && (x202002_2 == 0))) := by simpa using c74))
                            clear c74
                            exact absurd ((Option.some.inj H).trans hT_.out) (by decide)
                        · rw [if_neg c73] at H
                          have c73b0 : ((rd x6_2 0) == 65533) = false := beq_eq_false_iff_ne.mpr c73
                          have c73b1 : ((rd x6_2 0) != 65533) = true := bne_iff_ne.mpr c73
                          exact absurd ((Option.some.inj H).trans hT_.out) (by decide)
                      · rw [if_neg c72] at H
                        exact absurd H (by simp)
                    · rw [if_neg c71] at H
                      have c71b0 : ((x6_2.length : Int) == 1) = false := beq_eq_false_iff_ne.mpr c71
                      have c71b1 : ((x6_2.length : Int) != 1) = true := bne_iff_ne.mpr c71
                      exact absurd ((Option.some.inj H).trans hT_.out) (by decide)
                  · rw [if_neg c70] at H
                    have c70b0 : decide ((wrap32 (Go.bits .and .i64 a0 2097151)) ≤ 57343) = false := decide_eq_false c70
                    clear c70
                    by_cases c81 : (x6_2.length : Int) = 1
                    · rw [if_pos c81] at H
                      have c81b0 : ((x6_2.length : Int) == 1) = true := beq_iff_eq.mpr c81
                      have c81b1 : ((x6_2.length : Int) != 1) = false := bne_eq_false_iff_eq.mpr c81
                      clear c81
                      by_cases c82 : 0 < (x6_2.length : Int)
                      · rw [if_pos c82] at H
                        have c82b0 : decide (0 < (x6_2.length : Int)) = true := decide_eq_true c82
                        have c82b1 : decide (0 < x6_2.length) = true := decide_eq_true (by omega)
                        clear c82
                        by_cases c83 : (rd x6_2 0) = (wrap32 (Go.bits .and .i64 a0 2097151))
                        · rw [if_pos c83] at H
                          have c83b0 : ((rd x6_2 0) == (wrap32 (Go.bits .and .i64 a0 2097151))) = true := beq_iff_eq.mpr c83
                          have c83b1 : ((rd x6_2 0) != (wrap32 (Go.bits .and .i64 a0 2097151))) = false := bne_eq_false_iff_eq.mpr c83
                          clear c83
                          by_cases c84 : (x202000_2 == 0 && (x202001_2 == 0 && (x202002_2 == 0))) = true
                          · rw [if_pos c84] at H
                            have c84b0 : (x202000_2 == 0 && (x202001_2 == 0 && (x202002_2 == 0))) = true := c84
                            (try (have c84b1 : decide (x202000_2 = 0 && (x202001_2 == 0 && (x202002_2 == 0))) = true := by simpa using c84))
                            (try (have c84b2 : (x202000_2 == 0 && (x202001_2 == 0 && (x202002_2 == 0))) = true := by simpa using c84))
                            clear c84
                            by_cases c85 : (strOfNums t198).toList = (Utf8.encode (wrap32 (Go.bits .and .i64 a0 2097151))).toList
                            · rw [if_pos c85] at H
                              have c85b0 : ((strOfNums t198).toList == (Utf8.encode (wrap32 (Go.bits .and .i64 a0 2097151))).toList) = true := beq_iff_eq.mpr c85
                              have c85b1 : ((strOfNums t198).toList != (Utf8.encode (wrap32 (Go.bits .and .i64 a0 2097151))).toList) = false := bne_eq_false_iff_eq.mpr c85
                              clear c85
                              replace H := Option.bind_eq_some_iff.mp H
                              obtain ⟨t207, A860, H⟩ := H
                              replace H : (some t207) = some r := H
                              have A86 := Aside0.mk A860
                              clear A860
                              obtain rfl := Option.some.inj H
                              obtain ⟨Ao87, co87, eo87⟩ := Kd.R_slice HO_6.out
                              subst eo87
                              have p206 : 0 ≤ (0 : Int) := (by omega)
                              have q206 : 0 < (x6_2.length : Int) := of_decide_eq_true (by first | (with_reducible assumption) | assumption)
                              obtain ⟨ad206, e206, hx206_0⟩ := Kd.at_int (Kd.R_reads' HO_6.out).2.2 0 p206 q206
                              cases e206
                              have qi206 : (0 < x6_2.length) = True := eq_true (by omega)
                              (try rw [show ((0 : Int)).toNat = 0 from rfl] at hx206_0)
                              (try rw [Addr.add_zero'] at hx206_0)
                              replace p206 := eq_true p206
                              replace q206 := eq_true q206
                              have hcz88_0 : wr.cell? ⟨gb201, 0, none⟩ = some (.int .i64 x202000_2) := (blk_cell BK201.out 0).trans rfl
                              have hcz88_1 : wr.cell? ⟨gb201, 1, none⟩ = some (.int .i64 x202001_2) := (blk_cell BK201.out 1).trans rfl
                              have hcz88_2 : wr.cell? ⟨gb201, 2, none⟩ = some (.int .i64 x202002_2) := (blk_cell BK201.out 2).trans rfl
                              have hfz88_0 := blk_frozen BK201.out 0
                              have hfz88_1 := blk_frozen BK201.out 1
                              have hfz88_2 := blk_frozen BK201.out 2
                              have hcv89 := own_string (P := Try.prog) Try.underlying32 Try.underlying5 Try.underlying9 (Kd.own_of_R HO_4.out)
                              go_wp2_with (first | (go_at_call 9; (with_reducible refine (polyptychlaw1_awake.calls k2  t207 _ A86.out).mono ?_); rintro e w90 ⟨rfl, hb⟩; have n0_ := Aside0.mk (Kd.R_below (by (with_reducible repeat (first | apply Kd.R_alloc | apply Kd.R_drewN | apply Kd.R_drew | apply Kd.R_bytes)); exact HO_4.out) hb); have n1_ := Aside0.mk (Kd.R_below (by (with_reducible repeat (first | apply Kd.R_alloc | apply Kd.R_drewN | apply Kd.R_drew | apply Kd.R_bytes)); exact HO_6.out) hb); have n2_ := Aside0.mk (blk_below (g := gb201) (o := .cells #[.int .i64 x202000_2, .int .i64 x202001_2, .int .i64 x202002_2] 25 (0, 0)) (by (with_reducible repeat (first | refine blk_drewN ?_ _ | refine blk_drew ?_ | refine blk_alloc ?_ _ | refine blk_bytes ?_ _ _)); exact BK201.out) hb); have n3_ := Aside0.mk (below_step (by repeat (first | (with_reducible first | exact HB.out | apply below_alloc | apply pw_below_drewN | apply below_drew1 | apply below_bytes | refine below_set ?_ GE201.out) | exact HB.out)) hb); clear HO_4; clear HO_6; clear BK201; clear HB; have HO_4 := n0_; have HO_6 := n1_; have BK201 := n2_; have HB := n3_; clear n0_ n1_ n2_ n3_; (try clear hb); (try clear hb2); (try clear hk); (try clear hi)))
                              go_ret
                              exact ⟨by first | rfl | (simp [errW_none, errW_some] <;> rfl) | (simp [*, errW_none, errW_some] <;> rfl), by repeat (first | (with_reducible first | exact HB.out | apply below_alloc | apply pw_below_drewN | apply below_drew1 | apply below_bytes | refine below_set ?_ GE201.out) | exact HB.out)⟩
                            · rw [if_neg c85] at H
                              have c85b0 : ((strOfNums t198).toList == (Utf8.encode (wrap32 (Go.bits .and .i64 a0 2097151))).toList) = false := beq_eq_false_iff_ne.mpr c85
                              have c85b1 : ((strOfNums t198).toList != (Utf8.encode (wrap32 (Go.bits .and .i64 a0 2097151))).toList) = true := bne_iff_ne.mpr c85
                              exact absurd ((Option.some.inj H).trans hT_.out) (by decide)
                          · rw [if_neg c84] at H
                            have c84b0 : (x202000_2 == 0 && (x202001_2 == 0 && (x202002_2 == 0))) = false := by simpa using c84
                            (try (have c84b1 : decide (x202000_2 = 0 && (x202001_2 == 0 && (x202002_2 == 0))) = false := by simpa using c84))
                            (try (have c84b2 : (x202000_2 == 0 && (x202001_2 == 0 && (x202002_2 == 0))) = false := by simpa using c84))
                            (try (have c84b3 : ¬ (x202000_2 = 0 && (x202001_2 == 0 && (x202002_2 == 0))) := by simpa using c84))
                            clear c84
                            exact absurd ((Option.some.inj H).trans hT_.out) (by decide)
                        · rw [if_neg c83] at H
                          have c83b0 : ((rd x6_2 0) == (wrap32 (Go.bits .and .i64 a0 2097151))) = false := beq_eq_false_iff_ne.mpr c83
                          have c83b1 : ((rd x6_2 0) != (wrap32 (Go.bits .and .i64 a0 2097151))) = true := bne_iff_ne.mpr c83
                          exact absurd ((Option.some.inj H).trans hT_.out) (by decide)
                      · rw [if_neg c82] at H
                        exact absurd H (by simp)
                    · rw [if_neg c81] at H
                      have c81b0 : ((x6_2.length : Int) == 1) = false := beq_eq_false_iff_ne.mpr c81
                      have c81b1 : ((x6_2.length : Int) != 1) = true := bne_iff_ne.mpr c81
                      exact absurd ((Option.some.inj H).trans hT_.out) (by decide)
                · rw [if_neg c69] at H
                  have c69b0 : decide (55296 ≤ (wrap32 (Go.bits .and .i64 a0 2097151))) = false := decide_eq_false c69
                  clear c69
                  by_cases c91 : (x6_2.length : Int) = 1
                  · rw [if_pos c91] at H
                    have c91b0 : ((x6_2.length : Int) == 1) = true := beq_iff_eq.mpr c91
                    have c91b1 : ((x6_2.length : Int) != 1) = false := bne_eq_false_iff_eq.mpr c91
                    clear c91
                    by_cases c92 : 0 < (x6_2.length : Int)
                    · rw [if_pos c92] at H
                      have c92b0 : decide (0 < (x6_2.length : Int)) = true := decide_eq_true c92
                      have c92b1 : decide (0 < x6_2.length) = true := decide_eq_true (by omega)
                      clear c92
                      by_cases c93 : (rd x6_2 0) = (wrap32 (Go.bits .and .i64 a0 2097151))
                      · rw [if_pos c93] at H
                        have c93b0 : ((rd x6_2 0) == (wrap32 (Go.bits .and .i64 a0 2097151))) = true := beq_iff_eq.mpr c93
                        have c93b1 : ((rd x6_2 0) != (wrap32 (Go.bits .and .i64 a0 2097151))) = false := bne_eq_false_iff_eq.mpr c93
                        clear c93
                        by_cases c94 : (x202000_2 == 0 && (x202001_2 == 0 && (x202002_2 == 0))) = true
                        · rw [if_pos c94] at H
                          have c94b0 : (x202000_2 == 0 && (x202001_2 == 0 && (x202002_2 == 0))) = true := c94
                          (try (have c94b1 : decide (x202000_2 = 0 && (x202001_2 == 0 && (x202002_2 == 0))) = true := by simpa using c94))
                          (try (have c94b2 : (x202000_2 == 0 && (x202001_2 == 0 && (x202002_2 == 0))) = true := by simpa using c94))
                          clear c94
                          by_cases c95 : (strOfNums t198).toList = (Utf8.encode (wrap32 (Go.bits .and .i64 a0 2097151))).toList
                          · rw [if_pos c95] at H
                            have c95b0 : ((strOfNums t198).toList == (Utf8.encode (wrap32 (Go.bits .and .i64 a0 2097151))).toList) = true := beq_iff_eq.mpr c95
                            have c95b1 : ((strOfNums t198).toList != (Utf8.encode (wrap32 (Go.bits .and .i64 a0 2097151))).toList) = false := bne_eq_false_iff_eq.mpr c95
                            clear c95
                            replace H := Option.bind_eq_some_iff.mp H
                            obtain ⟨t209, A960, H⟩ := H
                            replace H : (some t209) = some r := H
                            have A96 := Aside0.mk A960
                            clear A960
                            obtain rfl := Option.some.inj H
                            obtain ⟨Ao97, co97, eo97⟩ := Kd.R_slice HO_6.out
                            subst eo97
                            have p208 : 0 ≤ (0 : Int) := (by omega)
                            have q208 : 0 < (x6_2.length : Int) := of_decide_eq_true (by first | (with_reducible assumption) | assumption)
                            obtain ⟨ad208, e208, hx208_0⟩ := Kd.at_int (Kd.R_reads' HO_6.out).2.2 0 p208 q208
                            cases e208
                            have qi208 : (0 < x6_2.length) = True := eq_true (by omega)
                            (try rw [show ((0 : Int)).toNat = 0 from rfl] at hx208_0)
                            (try rw [Addr.add_zero'] at hx208_0)
                            replace p208 := eq_true p208
                            replace q208 := eq_true q208
                            have hcz98_0 : wr.cell? ⟨gb201, 0, none⟩ = some (.int .i64 x202000_2) := (blk_cell BK201.out 0).trans rfl
                            have hcz98_1 : wr.cell? ⟨gb201, 1, none⟩ = some (.int .i64 x202001_2) := (blk_cell BK201.out 1).trans rfl
                            have hcz98_2 : wr.cell? ⟨gb201, 2, none⟩ = some (.int .i64 x202002_2) := (blk_cell BK201.out 2).trans rfl
                            have hfz98_0 := blk_frozen BK201.out 0
                            have hfz98_1 := blk_frozen BK201.out 1
                            have hfz98_2 := blk_frozen BK201.out 2
                            have hcv99 := own_string (P := Try.prog) Try.underlying32 Try.underlying5 Try.underlying9 (Kd.own_of_R HO_4.out)
                            go_wp2_with (first | (go_at_call 9; (with_reducible refine (polyptychlaw1_awake.calls k2  t209 _ A96.out).mono ?_); rintro e w100 ⟨rfl, hb⟩; have n0_ := Aside0.mk (Kd.R_below (by (with_reducible repeat (first | apply Kd.R_alloc | apply Kd.R_drewN | apply Kd.R_drew | apply Kd.R_bytes)); exact HO_4.out) hb); have n1_ := Aside0.mk (Kd.R_below (by (with_reducible repeat (first | apply Kd.R_alloc | apply Kd.R_drewN | apply Kd.R_drew | apply Kd.R_bytes)); exact HO_6.out) hb); have n2_ := Aside0.mk (blk_below (g := gb201) (o := .cells #[.int .i64 x202000_2, .int .i64 x202001_2, .int .i64 x202002_2] 25 (0, 0)) (by (with_reducible repeat (first | refine blk_drewN ?_ _ | refine blk_drew ?_ | refine blk_alloc ?_ _ | refine blk_bytes ?_ _ _)); exact BK201.out) hb); have n3_ := Aside0.mk (below_step (by repeat (first | (with_reducible first | exact HB.out | apply below_alloc | apply pw_below_drewN | apply below_drew1 | apply below_bytes | refine below_set ?_ GE201.out) | exact HB.out)) hb); clear HO_4; clear HO_6; clear BK201; clear HB; have HO_4 := n0_; have HO_6 := n1_; have BK201 := n2_; have HB := n3_; clear n0_ n1_ n2_ n3_; (try clear hb); (try clear hb2); (try clear hk); (try clear hi)))
                            go_ret
                            exact ⟨by first | rfl | (simp [errW_none, errW_some] <;> rfl) | (simp [*, errW_none, errW_some] <;> rfl), by repeat (first | (with_reducible first | exact HB.out | apply below_alloc | apply pw_below_drewN | apply below_drew1 | apply below_bytes | refine below_set ?_ GE201.out) | exact HB.out)⟩
                          · rw [if_neg c95] at H
                            have c95b0 : ((strOfNums t198).toList == (Utf8.encode (wrap32 (Go.bits .and .i64 a0 2097151))).toList) = false := beq_eq_false_iff_ne.mpr c95
                            have c95b1 : ((strOfNums t198).toList != (Utf8.encode (wrap32 (Go.bits .and .i64 a0 2097151))).toList) = true := bne_iff_ne.mpr c95
                            exact absurd ((Option.some.inj H).trans hT_.out) (by decide)
                        · rw [if_neg c94] at H
                          have c94b0 : (x202000_2 == 0 && (x202001_2 == 0 && (x202002_2 == 0))) = false := by simpa using c94
                          (try (have c94b1 : decide (x202000_2 = 0 && (x202001_2 == 0 && (x202002_2 == 0))) = false := by simpa using c94))
                          (try (have c94b2 : (x202000_2 == 0 && (x202001_2 == 0 && (x202002_2 == 0))) = false := by simpa using c94))
                          (try (have c94b3 : ¬ (x202000_2 = 0 && (x202001_2 == 0 && (x202002_2 == 0))) := by simpa using c94))
                          clear c94
                          exact absurd ((Option.some.inj H).trans hT_.out) (by decide)
                      · rw [if_neg c93] at H
                        have c93b0 : ((rd x6_2 0) == (wrap32 (Go.bits .and .i64 a0 2097151))) = false := beq_eq_false_iff_ne.mpr c93
                        have c93b1 : ((rd x6_2 0) != (wrap32 (Go.bits .and .i64 a0 2097151))) = true := bne_iff_ne.mpr c93
                        exact absurd ((Option.some.inj H).trans hT_.out) (by decide)
                    · rw [if_neg c92] at H
                      exact absurd H (by simp)
                  · rw [if_neg c91] at H
                    have c91b0 : ((x6_2.length : Int) == 1) = false := beq_eq_false_iff_ne.mpr c91
                    have c91b1 : ((x6_2.length : Int) != 1) = true := bne_iff_ne.mpr c91
                    exact absurd ((Option.some.inj H).trans hT_.out) (by decide)

/-- THE ONE PURE STATEMENT of polyptychlaw1_UtfdBack: yours. -/
def polyptychlaw1_UtfdBack.Pure : Prop := ∀ (a0 : Int), (Lit.int .i64 a0).wf = true → ∃ k, polyptychlaw1_UtfdBack.f k a0 = some true
theorem polyptychlaw1_UtfdBack.walk (P : polyptychlaw1_UtfdBack.Pure) (a0 : Int) (w : World) (w0 : (Lit.int .i64 a0).wf = true) :
    Calls Try.prog 6 #[.int .i64 a0] w fun e w' => e = .returned (.bool true) ∧ Below w.heap.size w w' := by
  obtain ⟨k, h⟩ := P a0 w0
  refine (polyptychlaw1_UtfdBack.calls k a0 true w h (Aside0.mk rfl)).mono ?_
  rintro e w' ⟨rfl, hd⟩
  exact ⟨rfl, hd⟩

end Go.Proofs.Ytdfklcbcidopfaa.PUtfdBack
