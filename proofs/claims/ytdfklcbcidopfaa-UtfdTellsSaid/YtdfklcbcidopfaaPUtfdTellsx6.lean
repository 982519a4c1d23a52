-- Written by a program of this session over the print of the kit (functions marked FOREIGN are proved by this session).
import Derived.Test.YtdfklcbcidopfaaPUtfdTellsx0
import Derived.Test.YtdfklcbcidopfaaPUtfdTellsx1
import Derived.Test.YtdfklcbcidopfaaPUtfdTellsx3
import Derived.Test.YtdfklcbcidopfaaPUtfdTellsx4
import Derived.Test.YtdfklcbcidopfaaPUtfdTellsx5
namespace Go.Proofs.Ytdfklcbcidopfaa.PUtfdTells
open Go.RowKit Go.Proofs.YtdfklcbcidopfaaW.PrintWords Go.Proofs.YtdfklcbcidopfaaW.PrintLast Go.Proofs.YtdfklcbcidopfaaW.PrintMore
attribute [local go_sem] max2_int min2_int max_two min_two max_three min_three max_four min_four   -- for this text's walks alone
set_option linter.unusedVariables false
set_option linter.unusedSimpArgs false

attribute [local go_sem high] eqA25
/-! ### polyptychlaw1_UtfdTells: function 5 -/
def polyptychlaw1_UtfdTells.l0 : Nat → List Int → Int → Int → Int → Int → Int → Int → Option (Bool)
 | 0, _, _, _, _, _, _, _ => none
 | k + 1, x0, x1, x2, x8, x252000, x252001, x252002 => if x8 < (x0.length : Int) then (if 0 ≤ x8 then ((utfd_Step.f k x252000 x252001 x252002 (rd x0 x8)).bind fun bt253 => ((polyptychref1_Utf.f k x252000 x252001 x252002 (rd x0 x8)).bind fun bt261 => (if (!(bt253.1 == bt261.1) || (!(bt253.2.1 == bt261.2.1) || (!(bt253.2.2.1 == bt261.2.2.1)))) = true then (some false) else ((polyptychref1_SameRunes.f bt253.2.2.2 bt261.2.2.2).bind fun t268 => (if t268 = true then ((utfd_End.f bt253.1 bt253.2.1 bt253.2.2.1).bind fun t269 => ((polyptychref1_End.f bt261.1 bt261.2.1 bt261.2.2.1).bind fun t272 => ((polyptychref1_SameRunes.f t269 t272).bind fun t275 => (if t275 = true then (polyptychlaw1_UtfdTells.l0 k x0 x1 x2 (wrap64 (x8 + 1)) bt253.1 bt253.2.1 bt253.2.2.1) else (some false))))) else (some false)))))) else (none)) else ((utfd_Step.f k x252000 x252001 x252002 x1).bind fun bt276 => ((polyptychref1_Utf.f k x252000 x252001 x252002 x1).bind fun bt283 => (if (bt276.1 == bt283.1 && (bt276.2.1 == bt283.2.1 && (bt276.2.2.1 == bt283.2.2.1))) = true then ((polyptychref1_SameRunes.f bt276.2.2.2 bt283.2.2.2).bind fun t290 => (if t290 = true then ((utfd_Put.f k (wrap32 (x2))).bind fun t291 => ((polyptychref1_Put.f (wrap32 (x2))).bind fun t294 => (if (strOfNums t291).toList = (strOfNums t294).toList then ((utfd_Put.f k (wrap32 (Go.bits .and .i64 x2 2097151))).bind fun t297 => ((polyptychref1_Put.f (wrap32 (Go.bits .and .i64 x2 2097151))).bind fun t300 => (if (strOfNums t297).toList = (strOfNums t300).toList then ((polyptychlaw1_awake.f k).bind fun t303 => (some t303)) else (some false)))) else (some false)))) else (some false))) else (some false))))
def polyptychlaw1_UtfdTells.f (k : Nat) (l0 : List Int) (a1 : Int) (a2 : Int) : Option (Bool) := if (l0.length : Int) > 500 then ((polyptychlaw1_awake.f k).bind fun t250 => (some t250)) else (polyptychlaw1_UtfdTells.l0 k l0 a1 a2 0 0 0 0)
theorem polyptychlaw1_UtfdTells.mono_l : ∀ k, (∀ y0 y1 y2 y3 y4 y5 y6, LeO (polyptychlaw1_UtfdTells.l0 k y0 y1 y2 y3 y4 y5 y6) (polyptychlaw1_UtfdTells.l0 (k + 1) y0 y1 y2 y3 y4 y5 y6))
 | 0 => fun _ _ _ _ _ _ _ r h => by simp [polyptychlaw1_UtfdTells.l0] at h
 | k + 1 => by
  have ih0 := polyptychlaw1_UtfdTells.mono_l k
  ·
   intro y0 y1 y2 y3 y4 y5 y6
   unfold polyptychlaw1_UtfdTells.l0
   repeat' first
   | (with_reducible exact ih0 _ _ _ _ _ _ _)
   | (with_reducible exact polyptychlaw1_awake.mono _)
   | (with_reducible exact polyptychref1_Utf.mono _ _ _ _ _)
   | (with_reducible exact utfd_Put.mono _ _)
   | (with_reducible exact utfd_Step.mono _ _ _ _ _)
   | (with_reducible exact LeO.refl _)
   | (with_reducible exact LeO.none _)
   | (with_reducible refine LeO.ite ?_ ?_)
   | (with_reducible refine LeO.bind ?_ (fun _ => ?_))
   | exact ih0 _ _ _ _ _ _ _
   | exact polyptychlaw1_awake.mono _
   | exact polyptychref1_Utf.mono _ _ _ _ _
   | exact utfd_Put.mono _ _
   | exact utfd_Step.mono _ _ _ _ _
   | exact LeO.none _
   | refine LeO.ite ?_ ?_
   | refine LeO.bind ?_ (fun _ => ?_)
theorem polyptychlaw1_UtfdTells.mono : ∀ a0 a1 a2 k, LeO (polyptychlaw1_UtfdTells.f k a0 a1 a2) (polyptychlaw1_UtfdTells.f (k + 1) a0 a1 a2) := by
 intro a0 a1 a2 k
 have ih0 := polyptychlaw1_UtfdTells.mono_l k
 unfold polyptychlaw1_UtfdTells.f
 repeat' first
   | (with_reducible exact ih0 _ _ _ _ _ _ _)
   | (with_reducible exact polyptychlaw1_awake.mono _)
   | (with_reducible exact polyptychref1_Utf.mono _ _ _ _ _)
   | (with_reducible exact utfd_Put.mono _ _)
   | (with_reducible exact utfd_Step.mono _ _ _ _ _)
   | (with_reducible exact LeO.refl _)
   | (with_reducible exact LeO.none _)
   | (with_reducible refine LeO.ite ?_ ?_)
   | (with_reducible refine LeO.bind ?_ (fun _ => ?_))
   | exact ih0 _ _ _ _ _ _ _
   | exact polyptychlaw1_awake.mono _
   | exact polyptychref1_Utf.mono _ _ _ _ _
   | exact utfd_Put.mono _ _
   | exact utfd_Step.mono _ _ _ _ _
   | exact LeO.none _
   | refine LeO.ite ?_ ?_
   | refine LeO.bind ?_ (fun _ => ?_)
def polyptychlaw1_UtfdTells.T7 : Bool × List (List Nat × List Nat) := (true, [([], []), ([], []), ([], []), ([1, 2], [1, 2]), ([3], [3]), ([0, 4], [0, 4]), ([5], [5]), ([6], [6]), ([6], [6]), ([], []), ([9, 7, 5, 0, 1, 2, 3, 4, 5, 6, 7, 9], [7, 9]), ([8, 10, 0, 1, 2, 3, 4, 5, 6, 7, 8, 9, 10], [8])])
def polyptychlaw1_UtfdTells.B7 : List Nat := [0, 0, 0, 6, 14, 31, 63, 127, 127, 0, 767, 2047]
theorem polyptychlaw1_UtfdTells.tab7 : rtab .any (opsOf Try.f5 7) = polyptychlaw1_UtfdTells.T7 := by kernel_rfl
theorem polyptychlaw1_UtfdTells.bits7 : waitsOk polyptychlaw1_UtfdTells.T7.2 polyptychlaw1_UtfdTells.B7 = true := by kernel_rfl
def polyptychlaw1_UtfdTells.T8 : Bool × List (List Nat × List Nat) := (true, [([], []), ([], []), ([], []), ([1, 2], [1, 2]), ([3], [3]), ([0, 4], [0, 4]), ([5], [5]), ([6], [6]), ([6], [6]), ([], []), ([9, 7, 5, 0, 1, 2, 3, 4, 5, 6, 7, 9], [7, 9]), ([8, 10, 0, 1, 2, 3, 4, 5, 6, 7, 8, 9, 10], [8])])
def polyptychlaw1_UtfdTells.B8 : List Nat := [0, 0, 0, 6, 14, 31, 63, 127, 127, 0, 767, 2047]
theorem polyptychlaw1_UtfdTells.tab8 : rtab .any (opsOf Try.f5 8) = polyptychlaw1_UtfdTells.T8 := by kernel_rfl
theorem polyptychlaw1_UtfdTells.bits8 : waitsOk polyptychlaw1_UtfdTells.T8.2 polyptychlaw1_UtfdTells.B8 = true := by kernel_rfl
def polyptychlaw1_UtfdTells.T9 : Bool × List (List Nat × List Nat) := (true, [([], []), ([], []), ([0, 1], [0, 1]), ([2], [2]), ([3], [3]), ([3], [3]), ([4, 5, 3, 3], [3, 4, 5]), ([6, 3], [3, 6]), ([3, 7], [3, 7]), ([8, 6], [8]), ([9], [9]), ([10, 9, 9], [9, 10]), ([9], [9]), ([12, 11, 9], [9, 12]), ([11, 13, 13, 9], [9, 11, 13]), ([14, 9], [9, 14]), ([9, 15], [9, 15])])
def polyptychlaw1_UtfdTells.B9 : List Nat := [0, 0, 3, 7, 15, 15, 63, 127, 255, 511, 1023, 2047, 1023, 8191, 16383, 32767, 65535]
theorem polyptychlaw1_UtfdTells.tab9 : rtab .any (opsOf Try.f5 9) = polyptychlaw1_UtfdTells.T9 := by kernel_rfl
theorem polyptychlaw1_UtfdTells.bits9 : waitsOk polyptychlaw1_UtfdTells.T9.2 polyptychlaw1_UtfdTells.B9 = true := by kernel_rfl
def polyptychlaw1_UtfdTells.T14 : Bool × List (List Nat × List Nat) := (true, [([], []), ([], []), ([0, 1], [0, 1]), ([2], [2]), ([3], [3]), ([3], [3]), ([4, 5, 3, 3], [3, 4, 5]), ([3, 6], [3, 6]), ([7, 6], [7]), ([8], [8]), ([9, 8], [8, 9]), ([10, 8, 8], [8, 10]), ([11, 8], [8, 11]), ([8], [8]), ([13, 8], [8, 13]), ([14, 11, 8], [8, 14]), ([15, 8], [8, 15]), ([12, 16, 8], [8, 12, 16]), ([8, 17], [8, 17]), ([18, 15], [18]), ([19], [19]), ([20, 19], [19, 20]), ([21, 19], [19, 21]), ([22, 19, 19], [19, 22]), ([23, 19], [19, 23]), ([19], [19]), ([25, 19], [19, 25]), ([26, 19], [19, 26]), ([27, 23, 19], [19, 27]), ([28, 19], [19, 28]), ([24, 29, 19], [19, 24, 29]), ([19, 30], [19, 30]), ([31, 28], [31]), ([32, 32], [32]), ([32, 33], [32, 33]), ([34, 33, 0, 1, 2, 3, 4, 5, 6, 7, 8, 9, 10, 11, 12, 13, 14, 15, 16, 17, 18, 19, 20, 21, 22, 23, 24, 25, 26, 27, 28, 29, 30, 31, 32, 33, 34], [34])])
def polyptychlaw1_UtfdTells.B14 : List Nat := [0, 0, 3, 7, 15, 15, 63, 127, 255, 511, 1023, 2047, 4095, 511, 8703, 28671, 61439, 131071, 262143, 524287, 1048575, 2097151, 4194303, 8388607, 16777215, 1048575, 34603007, 101711871, 251658239, 520093695, 1073741823, 2147483647, 4294967295, 8589934591, 17179869183, 34359738367]
theorem polyptychlaw1_UtfdTells.tab14 : rtab .any (opsOf Try.f5 14) = polyptychlaw1_UtfdTells.T14 := by kernel_rfl
theorem polyptychlaw1_UtfdTells.bits14 : waitsOk polyptychlaw1_UtfdTells.T14.2 polyptychlaw1_UtfdTells.B14 = true := by kernel_rfl
set_option maxHeartbeats 8000000 in
set_option maxRecDepth 100000 in
theorem polyptychlaw1_UtfdTells.calls (k : Nat) (A0 : Option Addr) (c0 : Nat) (l0 : List Int) (a1 : Int) (a2 : Int) (r : Bool) (w : World) (hr0 : Kd.C (Kd.int .u8) w A0 l0.length l0) (hc0 : l0.length ≤ c0) (h : polyptychlaw1_UtfdTells.f k l0 a1 a2 = some r) (hT_ : Aside0 (r = true)) :
  Calls Try.prog 5 #[.slice A0 l0.length c0, .int .u8 a1, .int .i64 a2] w fun e w' => e = .returned (.bool r) ∧ Below w.heap.size w w' := by
 have hu25 := Try.underlying25
 have HR0 := Aside0.mk hr0
 have HC0 := Aside0.mk hc0
 clear hr0 hc0
 have HB := Aside0.mk (Below.refl w.heap.size w)
 have H : (if (l0.length : Int) > 500 then ((polyptychlaw1_awake.f k).bind fun t250 => (some t250)) else (polyptychlaw1_UtfdTells.l0 k l0 a1 a2 0 0 0 0)) = some r := h
 clear h
 by_cases c4 : (l0.length : Int) > 500
 ·
  rw [if_pos c4] at H
  have c4b0 : decide (500 < (l0.length : Int)) = true := decide_eq_true c4
  have c4b1 : decide (500 < l0.length) = true := decide_eq_true (by omega)
  clear c4
  replace H := Option.bind_eq_some_iff.mp H
  obtain ⟨t250, A50, H⟩ := H
  (try dsimp only at H)
  have A5 := Aside0.mk A50
  clear A50
  obtain rfl := Option.some.inj H
  go_enter Try.func5, Try.ntmps5
  go_wp2_with (first | ((with_reducible refine gate_callee (f := 9) rfl ?_); refine goesL_ (some 20) rfl rfl Try.func9 (by kernel_rfl) rfl #[] rfl (by (try simp only [List.map_toArray, List.map_cons, List.map_nil]); first | done | rfl | (simp only [List.length_drop, List.length_take]; rfl)) ?_; (with_reducible refine (polyptychlaw1_awake.calls k  t250 _ A5.out).mono ?_); rintro e w6 ⟨rfl, hb⟩; refine ⟨_, rfl, ?_⟩; have n0_ := Aside0.mk (below_step (by repeat (first | (with_reducible first | exact HB.out | apply below_alloc | apply pw_below_drewN | apply below_drew1) | exact HB.out)) hb); clear HB; have HB := n0_; clear n0_; (try clear hb); (try clear hb2); (try clear hk); (try clear hi)))
  go_ret
  exact ⟨by first | rfl | (simp [errW_none, errW_some] <;> rfl) | (simp [*, errW_none, errW_some] <;> rfl), by repeat (first | (with_reducible first | exact HB.out | apply below_alloc | apply pw_below_drewN | apply below_drew1) | exact HB.out)⟩
 ·
  rw [if_neg c4] at H
  have c4b0 : decide (500 < (l0.length : Int)) = false := decide_eq_false c4
  have c4b1 : decide (500 < l0.length) = false := decide_eq_false (by omega)
  clear c4
  have H' := Aside0.mk H
  clear H
  go_enter Try.func5, Try.ntmps5
  go_wp2_with (first | ((with_reducible refine gate_dst (N := 7) rfl ?_); refine box_event ?hg (N := 7) ?hd (cs := #[.int .i64 0, .int .i64 0, .int .i64 0]) (t := 25) ?hr ?_; (case hd => rfl); (case hg => rfl); (case hr => first | (go_simp; done) | (go_simp; rfl)); intro gb251 hg w7 hbox hb; have n0_ := Aside0.mk (below_step (by repeat (first | (with_reducible first | exact HB.out | apply below_alloc | apply pw_below_drewN | apply below_drew1) | exact HB.out)) hb); have n1_ := Aside0.mk (hbox); have n2_ := Aside0.mk ((by rw [hg]; exact (below_size (by repeat (first | (with_reducible first | exact HB.out | apply below_alloc | apply pw_below_drewN | apply below_drew1) | exact HB.out))) : w.heap.size ≤ gb251)); have n3_ := Aside0.mk ((by rw [hg]; exact (below_size (by repeat (first | (with_reducible first | exact HB.out | apply below_alloc | apply pw_below_drewN | apply below_drew1) | exact HB.out))) : w.heap.size ≤ gb251)); clear HB; have HB := n0_; have BK251 := n1_; have GW251 := n2_; have GE251 := n3_; clear n0_ n1_ n2_ n3_; clear hb hbox hg; have hcz8_0 : w7.cell? ⟨gb251, 0, none⟩ = some (.int .i64 0) := (blk_cell BK251.out 0).trans rfl; have hcz8_1 : w7.cell? ⟨gb251, 1, none⟩ = some (.int .i64 0) := (blk_cell BK251.out 1).trans rfl; have hcz8_2 : w7.cell? ⟨gb251, 2, none⟩ = some (.int .i64 0) := (blk_cell BK251.out 2).trans rfl; have hfz8_0 := blk_frozen BK251.out 0; have hfz8_1 := blk_frozen BK251.out 1; have hfz8_2 := blk_frozen BK251.out 2))
  go_loopg [8] k (fun kq v8 w' => ∃ (x8_1 : Int) (x252000_1 : Int) (x252001_1 : Int) (x252002_1 : Int), v8 = .int .i64 x8_1 ∧ Aside0 (polyptychlaw1_UtfdTells.l0 kq l0 a1 a2 x8_1 x252000_1 x252001_1 x252002_1 = some r) ∧ Aside0 (kq ≤ k) ∧ Aside0 (w'.heap[gb251]? = some (.cells #[.int .i64 x252000_1, .int .i64 x252001_1, .int .i64 x252002_1] 25 (0, 0))) ∧ Aside0 (Below w.heap.size w w'))
  case atStart => exact ⟨(0), (0), (0), (0), (by first | rfl | (simp; done) | (simp [*]; done)), H', ⟨Nat.le_refl _⟩, ⟨by (with_reducible repeat (first | refine blk_drewN ?_ _ | refine blk_drew ?_ | refine blk_alloc ?_ _)); refine blk_put (cs := #[.int .i64 0, .int .i64 0, .int .i64 0]) ?_ 2 _ rfl; (with_reducible repeat (first | refine blk_drewN ?_ _ | refine blk_drew ?_ | refine blk_alloc ?_ _)); refine blk_put (cs := #[.int .i64 0, .int .i64 0, .int .i64 0]) ?_ 1 _ rfl; (with_reducible repeat (first | refine blk_drewN ?_ _ | refine blk_drew ?_ | refine blk_alloc ?_ _)); refine blk_put (cs := #[.int .i64 0, .int .i64 0, .int .i64 0]) ?_ 0 _ rfl; (with_reducible repeat (first | refine blk_drewN ?_ _ | refine blk_drew ?_ | refine blk_alloc ?_ _)); exact BK251.out⟩, ⟨by repeat (first | (with_reducible first | exact HB.out | apply below_alloc | apply pw_below_drewN | apply below_drew1 | refine below_set ?_ GE251.out) | exact HB.out)⟩⟩
  case round =>
   clear H'
   try clear p2
   try clear c4
   try clear c4b0
   try clear c4b1
   try clear c5
   try clear hcz8_0
   try clear hcz8_1
   try clear hcz8_2
   try clear hfz8_0
   try clear hfz8_1
   try clear hfz8_2
   obtain ⟨x8_1, x252000_1, x252001_1, x252002_1, rfl, HA, HK1, BK251, HB⟩ := hrel
   cases gk with
   | zero => exact absurd HA.out (by simp [polyptychlaw1_UtfdTells.l0])
   | succ k1 =>
    have H := HA.out
    clear HA
    simp only [polyptychlaw1_UtfdTells.l0] at H
    by_cases c9 : x8_1 < (l0.length : Int)
    ·
     rw [if_pos c9] at H
     have c9b0 : decide (x8_1 < (l0.length : Int)) = true := decide_eq_true c9
     clear c9
     by_cases c10 : 0 ≤ x8_1
     ·
      rw [if_pos c10] at H
      have c10b0 : decide (0 ≤ x8_1) = true := decide_eq_true c10
      clear c10
      replace H := Option.bind_eq_some_iff.mp H
      obtain ⟨⟨t253, t254, t255, t256⟩, A110, H⟩ := H
      (try dsimp only at H)
      have A11 := Aside0.mk A110
      clear A110
      replace H := Option.bind_eq_some_iff.mp H
      obtain ⟨⟨t261, t262, t263, t264⟩, A120, H⟩ := H
      (try dsimp only at H)
      have A12 := Aside0.mk A120
      clear A120
      by_cases c13 : (!(t253 == t261) || (!(t254 == t262) || (!(t255 == t263)))) = true
      ·
       rw [if_pos c13] at H
       have c13b0 : (!(t253 == t261) || (!(t254 == t262) || (!(t255 == t263)))) = true := c13
       clear c13
       exact absurd ((Option.some.inj H).trans hT_.out) (by decide)
      ·
       rw [if_neg c13] at H
       have c13b0 : (!(t253 == t261) || (!(t254 == t262) || (!(t255 == t263)))) = false := by simpa using c13
       clear c13
       replace H := Option.bind_eq_some_iff.mp H
       obtain ⟨t268, A140, H⟩ := H
       (try dsimp only at H)
       have A14 := Aside0.mk A140
       clear A140
       by_cases c15 : t268 = true
       ·
        subst c15
        have H1 : ((utfd_End.f t253 t254 t255).bind fun t269 => ((polyptychref1_End.f t261 t262 t263).bind fun t272 => ((polyptychref1_SameRunes.f t269 t272).bind fun t275 => (if t275 = true then (polyptychlaw1_UtfdTells.l0 k1 l0 a1 a2 (wrap64 (x8_1 + 1)) t253 t254 t255) else (some false))))) = some r := by rw [if_pos rfl] at H; exact H
        clear H
        have H := H1
        clear H1
        replace H := Option.bind_eq_some_iff.mp H
        obtain ⟨t269, A160, H⟩ := H
        (try dsimp only at H)
        have A16 := Aside0.mk A160
        clear A160
        replace H := Option.bind_eq_some_iff.mp H
        obtain ⟨t272, A170, H⟩ := H
        (try dsimp only at H)
        have A17 := Aside0.mk A170
        clear A170
        replace H := Option.bind_eq_some_iff.mp H
        obtain ⟨t275, A180, H⟩ := H
        (try dsimp only at H)
        have A18 := Aside0.mk A180
        clear A180
        by_cases c19 : t275 = true
        ·
         subst c19
         have H1 : (polyptychlaw1_UtfdTells.l0 k1 l0 a1 a2 (wrap64 (x8_1 + 1)) t253 t254 t255) = some r := by rw [if_pos rfl] at H; exact H
         clear H
         have H := H1
         clear H1
         have H' := Aside0.mk H
         clear H
         try go_wp2
         have n0_ := Aside0.mk (blk_drew BK251.out)
         have n1_ := Aside0.mk (below_drew1 HB.out)
         clear BK251
         clear HB
         have BK251 := n0_
         have HB := n1_
         clear n0_ n1_
         have p252 : 0 ≤ (x8_1 : Int) := of_decide_eq_true (by first | (with_reducible assumption) | assumption)
         have q252 : x8_1 < (l0.length : Int) := of_decide_eq_true (by first | (with_reducible assumption) | assumption)
         obtain ⟨ad252, e252, hx252_0⟩ := Kd.at_int HR0.out x8_1 p252 q252
         have hw252_0 := hx252_0
         cases e252
         replace hx252_0 := (HB.out.cell (World.block_lt_of_cell? w _ hx252_0)).trans hx252_0
         replace p252 := eq_true p252
         replace q252 := eq_true q252
         refine start_ (n := 12) (S := fun w' => w'.cell? ⟨gb251, 0, none⟩ = some (.int .i64 x252000_1) ∧ w'.cell? ⟨gb251, 1, none⟩ = some (.int .i64 x252001_1) ∧ w'.cell? ⟨gb251, 2, none⟩ = some (.int .i64 x252002_1) ∧ w'.cell? (ad252.add (x8_1).toNat) = some (.int .u8 (rd l0 x8_1))) (ds := []) #[false, false, false, false, false, false, false, false, false, false, false, false] (by kernel_rfl) rfl rfl ⟨(blk_cell BK251.out 0).trans rfl, (blk_cell BK251.out 1).trans rfl, (blk_cell BK251.out 2).trans rfl, ((HB.out.cell (World.block_lt_of_cell? w _ hw252_0)).trans hw252_0)⟩ (fun hHeld => ?_); refine with_tabW polyptychlaw1_UtfdTells.tab7 polyptychlaw1_UtfdTells.bits7 (fun HT_ HW_ => ?_)
         generalize wr.drew = w20 at BK251 HB hx252_0 hHeld ⊢
         refine pure_ (i := 1) (N := some 30) (v := ?_) (a' := ?_) #[false, true, false, false, false, false, false, false, false, false, false, false] rfl rfl (any_of HT_.out (by kernel_rfl)) (fun _ _ _ h => h) (Or.inl ⟨by rfl, ?_⟩) ?_ ?_
         rotate_left
         ·
          intro w'
          go_simp
          with_reducible rfl
         rotate_left
         ·
          simp only [Act.put, List.setIfInBounds_toArray, List.set_cons_zero, List.set_cons_succ, i64_w, i32_w]
          rfl
         refine pure_ (i := 2) (N := some 31) (v := ?_) (a' := ?_) #[false, true, true, false, false, false, false, false, false, false, false, false] rfl rfl (any_of HT_.out (by kernel_rfl)) (fun _ _ _ h => h) (Or.inl ⟨by rfl, ?_⟩) ?_ ?_
         rotate_left
         ·
          intro w'
          go_simp
          with_reducible rfl
         rotate_left
         ·
          simp only [Act.put, List.setIfInBounds_toArray, List.set_cons_zero, List.set_cons_succ, i64_w, i32_w]
          rfl
         refine pure_ (i := 3) (N := some 32) (v := ?_) (a' := ?_) #[false, true, true, true, false, false, false, false, false, false, false, false] rfl rfl (any_of HT_.out (by kernel_rfl)) (fun _ _ _ h => h) (Or.inl ⟨by rfl, ?_⟩) ?_ ?_
         rotate_left
         ·
          intro w'
          go_simp
          with_reducible rfl
         rotate_left
         ·
          simp only [Act.put, List.setIfInBounds_toArray, List.set_cons_zero, List.set_cons_succ, i64_w, i32_w]
          rfl
         refine take_ (i := 0) (N := some 29) (v := ?_) (a' := ?_) #[true, true, true, true, false, false, false, false, false, false, false, false] rfl rfl (take_ofW HT_.out HW_.out (by kernel_rfl)) (fun _ _ _ h => h) (Or.inl ⟨by rfl, ?_⟩) hHeld ?_ ?_
         rotate_left
         ·
          rintro w' ⟨s0, s1, s2, s3⟩
          go_simp
          with_reducible rfl
         rotate_left
         ·
          simp only [Act.put, List.setIfInBounds_toArray, List.set_cons_zero, List.set_cons_succ, i64_w, i32_w]
          rfl
         refine take_ (i := 4) (N := some 33) (v := ?_) (a' := ?_) #[true, true, true, true, true, false, false, false, false, false, false, false] rfl rfl (take_ofW HT_.out HW_.out (by kernel_rfl)) (fun _ _ _ h => h) (Or.inl ⟨by rfl, ?_⟩) hHeld ?_ ?_
         rotate_left
         ·
          rintro w' ⟨s0, s1, s2, s3⟩
          go_simp
          with_reducible rfl
         rotate_left
         ·
          simp only [Act.put, List.setIfInBounds_toArray, List.set_cons_zero, List.set_cons_succ, i64_w, i32_w]
          rfl
         refine join_ (σ := Value × Nat) 2 #[true, true, true, true, true, true, true, true, true, true, false, false] (fun s_ => [(34, .tuple #[.agg #[.int .i64 t253, .int .i64 t254, .int .i64 t255], s_.1]), (9, .pointer (some ⟨s_.2, 0, none⟩)), (28, .tuple #[.agg #[.int .i64 t253, .int .i64 t254, .int .i64 t255], s_.1]), (35, .agg #[.int .i64 t253, .int .i64 t254, .int .i64 t255]), (36, s_.1)]) (fun s_ w' => (w'.cell? ⟨gb251, 0, none⟩ = some (.int .i64 x252000_1) ∧ w'.cell? ⟨gb251, 1, none⟩ = some (.int .i64 x252001_1) ∧ w'.cell? ⟨gb251, 2, none⟩ = some (.int .i64 x252002_1) ∧ w'.cell? (ad252.add (x8_1).toNat) = some (.int .u8 (rd l0 x8_1))) ∧ (Kd.R (Kd.int .i32) 21 w' w.heap.size (fun _ => True) s_.1 t256) ∧ (w'.heap[gb251]? = some (.cells #[.int .i64 x252000_1, .int .i64 x252001_1, .int .i64 x252002_1] 25 (0, 0))) ∧ (w'.heap[s_.2]? = some (.cells #[.int .i64 0, .int .i64 0, .int .i64 0] 25 (0, 0))) ∧ (w.heap.size ≤ s_.2) ∧ (w.heap.size ≤ s_.2) ∧ (gb251 ≠ s_.2) ∧ (s_.2 ≠ gb251) ∧ (Below w.heap.size w w')) ?_ ?_
         rotate_left
         ·
          intro hCont
          refine two_ (i := 5) (j := 9) (Ni := some 34) (Nj := some 9) #[true, true, true, true, true, true, false, false, false, false, false, false] #[true, true, true, true, true, false, false, false, false, true, false, false] rfl rfl rfl rfl (two_of HT_.out (by kernel_rfl)) (by decide) (by decide) (fun K hK => ?_) (fun K hK => ?_)
          ·
           skip
           refine goes_ Try.func7 (by kernel_rfl) rfl #[.agg #[.int .i64 x252000_1, .int .i64 x252001_1, .int .i64 x252002_1], .int .u8 (rd l0 x8_1)] (by rfl) rfl rfl (by (try simp only [List.map_toArray, List.map_cons, List.map_nil]); first | done | rfl | (simp only [List.length_drop, List.length_take]; rfl)) ?_
           with_reducible refine (utfd_Step.calls k1 x252000_1 x252001_1 x252002_1 (rd l0 x8_1) t253 t254 t255 t256 _ A11.out).mono ?_
           rintro e w21 ⟨v257, rfl, ho0, hb⟩
           refine ⟨_, rfl, ?_⟩
           have n0_ := Aside0.mk (Kd.R_lower ho0 (below_size (by repeat (first | (with_reducible first | exact HB.out | apply below_alloc | apply pw_below_drewN | apply below_drew1 | refine below_set ?_ GE251.out) | exact HB.out))))
           have n1_ := Aside0.mk (blk_below (g := gb251) (o := .cells #[.int .i64 x252000_1, .int .i64 x252001_1, .int .i64 x252002_1] 25 (0, 0)) (by (with_reducible repeat (first | refine blk_drewN ?_ _ | refine blk_drew ?_ | refine blk_alloc ?_ _)); exact BK251.out) hb)
           have n2_ := Aside0.mk (below_step (by repeat (first | (with_reducible first | exact HB.out | apply below_alloc | apply pw_below_drewN | apply below_drew1 | refine below_set ?_ GE251.out) | exact HB.out)) hb)
           clear BK251
           clear HB
           have HO258 := n0_
           have BK251 := n1_
           have HB := n2_
           clear n0_ n1_ n2_
           (try clear hb)
           (try clear hb2)
           (try clear hk)
           (try clear hi)
           (try clear ho0)
           refine hK.out _ _ ⟨(blk_cell BK251.out 0).trans rfl, (blk_cell BK251.out 1).trans rfl, (blk_cell BK251.out 2).trans rfl, ((HB.out.cell (World.block_lt_of_cell? w _ hw252_0)).trans hw252_0)⟩ (fun hHeld => ?_)
           clear hK K
           refine norm_ (a' := ?_) ?_ ?_
           rotate_left
           ·
            show Act.put _ (some 34) _ = _
            simp only [Act.put, List.setIfInBounds_toArray, List.set_cons_zero, List.set_cons_succ, i64_w, i32_w]
            rfl
           refine pure_ (i := 6) (N := some 28) (v := ?_) (a' := ?_) #[true, true, true, true, true, true, true, false, false, false, false, false] rfl rfl (any_of HT_.out (by kernel_rfl)) (fun _ _ _ h => h) (Or.inl ⟨by rfl, ?_⟩) ?_ ?_
           rotate_left
           ·
            intro w'
            go_simp
            with_reducible rfl
           rotate_left
           ·
            simp only [Act.put, List.setIfInBounds_toArray, List.set_cons_zero, List.set_cons_succ, i64_w, i32_w]
            rfl
           refine pure_ (i := 7) (N := some 35) (v := ?_) (a' := ?_) #[true, true, true, true, true, true, true, true, false, false, false, false] rfl rfl (any_of HT_.out (by kernel_rfl)) (fun _ _ _ h => h) (Or.inl ⟨by rfl, ?_⟩) ?_ ?_
           rotate_left
           ·
            intro w'
            go_simp
            with_reducible rfl
           rotate_left
           ·
            simp only [Act.put, List.setIfInBounds_toArray, List.set_cons_zero, List.set_cons_succ, i64_w, i32_w]
            rfl
           refine pure_ (i := 8) (N := some 36) (v := ?_) (a' := ?_) #[true, true, true, true, true, true, true, true, true, false, false, false] rfl rfl (any_of HT_.out (by kernel_rfl)) (fun _ _ _ h => h) (Or.inl ⟨by rfl, ?_⟩) ?_ ?_
           rotate_left
           ·
            intro w'
            go_simp
            with_reducible rfl
           rotate_left
           ·
            simp only [Act.put, List.setIfInBounds_toArray, List.set_cons_zero, List.set_cons_succ, i64_w, i32_w]
            rfl
           refine one_ (i := 9) (N := some 9) #[true, true, true, true, true, true, true, true, true, true, false, false] rfl rfl (one_of HT_.out (by kernel_rfl)) (by decide) (fun K hK => ?_)
           refine box_step ?hg (N := 9) ?hd (cs := #[.int .i64 0, .int .i64 0, .int .i64 0]) (t := 25) ?hr ?_; (case hd => rfl); (case hg => rfl); (case hr => first | (go_simp; done) | (go_simp; rfl))
           intro gb259 hg w22 hbox hb
           have n0_ := Aside0.mk (Kd.R_below (by (with_reducible repeat (first | apply Kd.R_alloc | apply Kd.R_drewN | apply Kd.R_drew)); exact HO258.out) hb)
           have n1_ := Aside0.mk (blk_below (g := gb251) (o := .cells #[.int .i64 x252000_1, .int .i64 x252001_1, .int .i64 x252002_1] 25 (0, 0)) (by (with_reducible repeat (first | refine blk_drewN ?_ _ | refine blk_drew ?_ | refine blk_alloc ?_ _)); exact BK251.out) hb)
           have n2_ := Aside0.mk (below_step (by repeat (first | (with_reducible first | exact HB.out | apply below_alloc | apply pw_below_drewN | apply below_drew1 | refine below_set ?_ GE251.out) | exact HB.out)) hb)
           have n3_ := Aside0.mk (hbox)
           have n4_ := Aside0.mk ((by rw [hg]; exact (below_size (by repeat (first | (with_reducible first | exact HB.out | apply below_alloc | apply pw_below_drewN | apply below_drew1 | refine below_set ?_ GE251.out) | exact HB.out))) : w.heap.size ≤ gb259))
           have n5_ := Aside0.mk ((by rw [hg]; exact (below_size (by repeat (first | (with_reducible first | exact HB.out | apply below_alloc | apply pw_below_drewN | apply below_drew1 | refine below_set ?_ GE251.out) | exact HB.out))) : w.heap.size ≤ gb259))
           have n6_ := Aside0.mk ((by rw [hg]; exact Nat.ne_of_lt (blk_lt (g := gb251) (o := .cells #[.int .i64 x252000_1, .int .i64 x252001_1, .int .i64 x252002_1] 25 (0, 0)) (by (with_reducible repeat (first | refine blk_drewN ?_ _ | refine blk_drew ?_ | refine blk_alloc ?_ _)); exact BK251.out)) : gb251 ≠ gb259))
           have n7_ := Aside0.mk ((by rw [hg]; exact Nat.ne_of_gt (blk_lt (g := gb251) (o := .cells #[.int .i64 x252000_1, .int .i64 x252001_1, .int .i64 x252002_1] 25 (0, 0)) (by (with_reducible repeat (first | refine blk_drewN ?_ _ | refine blk_drew ?_ | refine blk_alloc ?_ _)); exact BK251.out)) : gb259 ≠ gb251))
           clear HO258
           clear BK251
           clear HB
           have HO258 := n0_
           have BK251 := n1_
           have HB := n2_
           have BK259 := n3_
           have GW259 := n4_
           have GE259 := n5_
           have NB251_259 := n6_
           have NB259_251 := n7_
           clear n0_ n1_ n2_ n3_ n4_ n5_ n6_ n7_
           clear hb hbox hg
           refine hK.out _ _ ⟨(blk_cell BK251.out 0).trans rfl, (blk_cell BK251.out 1).trans rfl, (blk_cell BK251.out 2).trans rfl, ((HB.out.cell (World.block_lt_of_cell? w _ hw252_0)).trans hw252_0)⟩ (fun hHeld => ?_)
           clear hK K
           refine norm_ (a' := ?_) ?_ ?_
           rotate_left
           ·
            show Act.put _ (some 9) _ = _
            simp only [Act.put, List.setIfInBounds_toArray, List.set_cons_zero, List.set_cons_succ, i64_w, i32_w]
            rfl
           exact norm_ (by simp only [putAll, Act.put, List.setIfInBounds_toArray, List.set_cons_zero, List.set_cons_succ]) (hCont (v257, gb259) _ ⟨hHeld, (by (with_reducible repeat (first | apply Kd.R_alloc | apply Kd.R_drewN | apply Kd.R_drew)); exact HO258.out), (by (with_reducible repeat (first | refine blk_drewN ?_ _ | refine blk_drew ?_ | refine blk_alloc ?_ _)); exact BK251.out), (by (with_reducible repeat (first | refine blk_drewN ?_ _ | refine blk_drew ?_ | refine blk_alloc ?_ _)); exact BK259.out), GW259.out, GE259.out, NB251_259.out, NB259_251.out, (by repeat (first | (with_reducible first | exact HB.out | apply below_alloc | apply pw_below_drewN | apply below_drew1 | refine below_set ?_ GE251.out | refine below_set ?_ GE259.out) | exact HB.out))⟩)
          ·
           skip
           refine box_step ?hg (N := 9) ?hd (cs := #[.int .i64 0, .int .i64 0, .int .i64 0]) (t := 25) ?hr ?_; (case hd => rfl); (case hg => rfl); (case hr => first | (go_simp; done) | (go_simp; rfl))
           intro gb259 hg w21 hbox hb
           have n0_ := Aside0.mk (blk_below (g := gb251) (o := .cells #[.int .i64 x252000_1, .int .i64 x252001_1, .int .i64 x252002_1] 25 (0, 0)) (by (with_reducible repeat (first | refine blk_drewN ?_ _ | refine blk_drew ?_ | refine blk_alloc ?_ _)); exact BK251.out) hb)
           have n1_ := Aside0.mk (below_step (by repeat (first | (with_reducible first | exact HB.out | apply below_alloc | apply pw_below_drewN | apply below_drew1 | refine below_set ?_ GE251.out) | exact HB.out)) hb)
           have n2_ := Aside0.mk (hbox)
           have n3_ := Aside0.mk ((by rw [hg]; exact (below_size (by repeat (first | (with_reducible first | exact HB.out | apply below_alloc | apply pw_below_drewN | apply below_drew1 | refine below_set ?_ GE251.out) | exact HB.out))) : w.heap.size ≤ gb259))
           have n4_ := Aside0.mk ((by rw [hg]; exact (below_size (by repeat (first | (with_reducible first | exact HB.out | apply below_alloc | apply pw_below_drewN | apply below_drew1 | refine below_set ?_ GE251.out) | exact HB.out))) : w.heap.size ≤ gb259))
           have n5_ := Aside0.mk ((by rw [hg]; exact Nat.ne_of_lt (blk_lt (g := gb251) (o := .cells #[.int .i64 x252000_1, .int .i64 x252001_1, .int .i64 x252002_1] 25 (0, 0)) (by (with_reducible repeat (first | refine blk_drewN ?_ _ | refine blk_drew ?_ | refine blk_alloc ?_ _)); exact BK251.out)) : gb251 ≠ gb259))
           have n6_ := Aside0.mk ((by rw [hg]; exact Nat.ne_of_gt (blk_lt (g := gb251) (o := .cells #[.int .i64 x252000_1, .int .i64 x252001_1, .int .i64 x252002_1] 25 (0, 0)) (by (with_reducible repeat (first | refine blk_drewN ?_ _ | refine blk_drew ?_ | refine blk_alloc ?_ _)); exact BK251.out)) : gb259 ≠ gb251))
           clear BK251
           clear HB
           have BK251 := n0_
           have HB := n1_
           have BK259 := n2_
           have GW259 := n3_
           have GE259 := n4_
           have NB251_259 := n5_
           have NB259_251 := n6_
           clear n0_ n1_ n2_ n3_ n4_ n5_ n6_
           clear hb hbox hg
           refine hK.out _ _ ⟨(blk_cell BK251.out 0).trans rfl, (blk_cell BK251.out 1).trans rfl, (blk_cell BK251.out 2).trans rfl, ((HB.out.cell (World.block_lt_of_cell? w _ hw252_0)).trans hw252_0)⟩ (fun hHeld => ?_)
           clear hK K
           refine norm_ (a' := ?_) ?_ ?_
           rotate_left
           ·
            show Act.put _ (some 9) _ = _
            simp only [Act.put, List.setIfInBounds_toArray, List.set_cons_zero, List.set_cons_succ, i64_w, i32_w]
            rfl
           refine one_ (i := 5) (N := some 34) #[true, true, true, true, true, true, false, false, false, true, false, false] rfl rfl (one_of HT_.out (by kernel_rfl)) (by decide) (fun K hK => ?_)
           refine goes_ Try.func7 (by kernel_rfl) rfl #[.agg #[.int .i64 x252000_1, .int .i64 x252001_1, .int .i64 x252002_1], .int .u8 (rd l0 x8_1)] (by rfl) rfl rfl (by (try simp only [List.map_toArray, List.map_cons, List.map_nil]); first | done | rfl | (simp only [List.length_drop, List.length_take]; rfl)) ?_
           with_reducible refine (utfd_Step.calls k1 x252000_1 x252001_1 x252002_1 (rd l0 x8_1) t253 t254 t255 t256 _ A11.out).mono ?_
           rintro e w22 ⟨v257, rfl, ho0, hb⟩
           refine ⟨_, rfl, ?_⟩
           have n0_ := Aside0.mk (Kd.R_lower ho0 (below_size (by repeat (first | (with_reducible first | exact HB.out | apply below_alloc | apply pw_below_drewN | apply below_drew1 | refine below_set ?_ GE251.out | refine below_set ?_ GE259.out) | exact HB.out))))
           have n1_ := Aside0.mk (blk_below (g := gb251) (o := .cells #[.int .i64 x252000_1, .int .i64 x252001_1, .int .i64 x252002_1] 25 (0, 0)) (by (with_reducible repeat (first | refine blk_drewN ?_ _ | refine blk_drew ?_ | refine blk_alloc ?_ _)); exact BK251.out) hb)
           have n2_ := Aside0.mk (blk_below (g := gb259) (o := .cells #[.int .i64 0, .int .i64 0, .int .i64 0] 25 (0, 0)) (by (with_reducible repeat (first | refine blk_drewN ?_ _ | refine blk_drew ?_ | refine blk_alloc ?_ _)); exact BK259.out) hb)
           have n3_ := Aside0.mk (below_step (by repeat (first | (with_reducible first | exact HB.out | apply below_alloc | apply pw_below_drewN | apply below_drew1 | refine below_set ?_ GE251.out | refine below_set ?_ GE259.out) | exact HB.out)) hb)
           clear BK251
           clear BK259
           clear HB
           have HO258 := n0_
           have BK251 := n1_
           have BK259 := n2_
           have HB := n3_
           clear n0_ n1_ n2_ n3_
           (try clear hb)
           (try clear hb2)
           (try clear hk)
           (try clear hi)
           (try clear ho0)
           refine hK.out _ _ ⟨(blk_cell BK251.out 0).trans rfl, (blk_cell BK251.out 1).trans rfl, (blk_cell BK251.out 2).trans rfl, ((HB.out.cell (World.block_lt_of_cell? w _ hw252_0)).trans hw252_0)⟩ (fun hHeld => ?_)
           clear hK K
           refine norm_ (a' := ?_) ?_ ?_
           rotate_left
           ·
            show Act.put _ (some 34) _ = _
            simp only [Act.put, List.setIfInBounds_toArray, List.set_cons_zero, List.set_cons_succ, i64_w, i32_w]
            rfl
           refine pure_ (i := 6) (N := some 28) (v := ?_) (a' := ?_) #[true, true, true, true, true, true, true, false, false, true, false, false] rfl rfl (any_of HT_.out (by kernel_rfl)) (fun _ _ _ h => h) (Or.inl ⟨by rfl, ?_⟩) ?_ ?_
           rotate_left
           ·
            intro w'
            go_simp
            with_reducible rfl
           rotate_left
           ·
            simp only [Act.put, List.setIfInBounds_toArray, List.set_cons_zero, List.set_cons_succ, i64_w, i32_w]
            rfl
           refine pure_ (i := 7) (N := some 35) (v := ?_) (a' := ?_) #[true, true, true, true, true, true, true, true, false, true, false, false] rfl rfl (any_of HT_.out (by kernel_rfl)) (fun _ _ _ h => h) (Or.inl ⟨by rfl, ?_⟩) ?_ ?_
           rotate_left
           ·
            intro w'
            go_simp
            with_reducible rfl
           rotate_left
           ·
            simp only [Act.put, List.setIfInBounds_toArray, List.set_cons_zero, List.set_cons_succ, i64_w, i32_w]
            rfl
           refine pure_ (i := 8) (N := some 36) (v := ?_) (a' := ?_) #[true, true, true, true, true, true, true, true, true, true, false, false] rfl rfl (any_of HT_.out (by kernel_rfl)) (fun _ _ _ h => h) (Or.inl ⟨by rfl, ?_⟩) ?_ ?_
           rotate_left
           ·
            intro w'
            go_simp
            with_reducible rfl
           rotate_left
           ·
            simp only [Act.put, List.setIfInBounds_toArray, List.set_cons_zero, List.set_cons_succ, i64_w, i32_w]
            rfl
           exact norm_ (by simp only [putAll, Act.put, List.setIfInBounds_toArray, List.set_cons_zero, List.set_cons_succ]) (hCont (v257, gb259) _ ⟨hHeld, (by (with_reducible repeat (first | apply Kd.R_alloc | apply Kd.R_drewN | apply Kd.R_drew)); exact HO258.out), (by (with_reducible repeat (first | refine blk_drewN ?_ _ | refine blk_drew ?_ | refine blk_alloc ?_ _)); exact BK251.out), (by (with_reducible repeat (first | refine blk_drewN ?_ _ | refine blk_drew ?_ | refine blk_alloc ?_ _)); exact BK259.out), GW259.out, GE259.out, NB251_259.out, NB259_251.out, (by repeat (first | (with_reducible first | exact HB.out | apply below_alloc | apply pw_below_drewN | apply below_drew1 | refine below_set ?_ GE251.out | refine below_set ?_ GE259.out) | exact HB.out))⟩)
         rintro ⟨v257, gb259⟩ w23 ⟨hS_, h0_, h1_, h2_, h3_, h4_, h5_, h6_, h7_⟩
         have n0_ : Aside0 (Kd.R (Kd.int .i32) 21 w23 w.heap.size (fun _ => True) v257 t256) := ⟨h0_⟩
         have n1_ : Aside0 (w23.heap[gb251]? = some (.cells #[.int .i64 x252000_1, .int .i64 x252001_1, .int .i64 x252002_1] 25 (0, 0))) := ⟨h1_⟩
         have n2_ : Aside0 (w23.heap[gb259]? = some (.cells #[.int .i64 0, .int .i64 0, .int .i64 0] 25 (0, 0))) := ⟨h2_⟩
         have n3_ : Aside0 (w.heap.size ≤ gb259) := ⟨h3_⟩
         have n4_ : Aside0 (w.heap.size ≤ gb259) := ⟨h4_⟩
         have n5_ : Aside0 (gb251 ≠ gb259) := ⟨h5_⟩
         have n6_ : Aside0 (gb259 ≠ gb251) := ⟨h6_⟩
         have n7_ : Aside0 (Below w.heap.size w w23) := ⟨h7_⟩
         clear BK251
         clear HB
         clear h0_ h1_ h2_ h3_ h4_ h5_ h6_ h7_
         have HO258 := n0_
         have BK251 := n1_
         have BK259 := n2_
         have GW259 := n3_
         have GE259 := n4_
         have NB251_259 := n5_
         have NB259_251 := n6_
         have HB := n7_
         clear n0_ n1_ n2_ n3_ n4_ n5_ n6_ n7_
         have hHeld : w23.cell? ⟨gb251, 0, none⟩ = some (.int .i64 x252000_1) ∧ w23.cell? ⟨gb251, 1, none⟩ = some (.int .i64 x252001_1) ∧ w23.cell? ⟨gb251, 2, none⟩ = some (.int .i64 x252002_1) ∧ w23.cell? (ad252.add (x8_1).toNat) = some (.int .u8 (rd l0 x8_1)) := hS_
         refine norm_ (a' := ?_) ?_ ?_
         rotate_left
         ·
          simp only [putAll, Act.put, List.setIfInBounds_toArray, List.set_cons_zero, List.set_cons_succ]
          rfl
         refine one_ (i := 10) (N := none) #[true, true, true, true, true, true, true, true, true, true, true, false] rfl rfl (one_of HT_.out (by kernel_rfl)) (by decide) (fun K hK => ?_)
         have hs24 : w23.cell? ⟨gb259, 0, none⟩ = some (.int .i64 0) := (blk_cell BK259.out 0).trans rfl
         have hfs24 := blk_frozen BK259.out 0
         have hns24_0 := NB251_259.out
         have hms24_0 := NB259_251.out
         have hs25 : w23.cell? ⟨gb259, 1, none⟩ = some (.int .i64 0) := (blk_cell BK259.out 1).trans rfl
         have hfs25 := blk_frozen BK259.out 1
         have hns25_0 := NB251_259.out
         have hms25_0 := NB259_251.out
         have hs26 : w23.cell? ⟨gb259, 2, none⟩ = some (.int .i64 0) := (blk_cell BK259.out 2).trans rfl
         have hfs26 := blk_frozen BK259.out 2
         have hns26_0 := NB251_259.out
         have hms26_0 := NB259_251.out
         refine skip_ (w1 := ?_) (by rfl) rfl ?_ ?_
         rotate_left
         ·
          go_simp
          rfl
         refine hK.out _ _ ⟨((cell_far (p := ⟨gb259, _, none⟩) NB251_259.out _).trans (((cell_far (p := ⟨gb259, _, none⟩) NB251_259.out _).trans (((cell_far (p := ⟨gb259, _, none⟩) NB251_259.out _).trans (hHeld.1)))))), ((cell_far (p := ⟨gb259, _, none⟩) NB251_259.out _).trans (((cell_far (p := ⟨gb259, _, none⟩) NB251_259.out _).trans (((cell_far (p := ⟨gb259, _, none⟩) NB251_259.out _).trans (hHeld.2.1)))))), ((cell_far (p := ⟨gb259, _, none⟩) NB251_259.out _).trans (((cell_far (p := ⟨gb259, _, none⟩) NB251_259.out _).trans (((cell_far (p := ⟨gb259, _, none⟩) NB251_259.out _).trans (hHeld.2.2.1)))))), ((cell_far (p := ⟨gb259, _, none⟩) (by first | exact Nat.ne_of_lt (Nat.lt_of_lt_of_le (by have := World.block_lt_of_cell? _ _ hw252_0; first | rwa [add_block] at this | exact this) GW259.out) | (rw [add_block]; exact Nat.ne_of_lt (Nat.lt_of_lt_of_le (by have := World.block_lt_of_cell? _ _ hw252_0; first | rwa [add_block] at this | exact this) GW259.out)) | (show (Addr.add _ _).block ≠ _; rw [add_block]; exact Nat.ne_of_lt (Nat.lt_of_lt_of_le (by have := World.block_lt_of_cell? _ _ hw252_0; first | rwa [add_block] at this | exact this) GW259.out)) | (dsimp only; exact Nat.ne_of_lt (Nat.lt_of_lt_of_le (by have := World.block_lt_of_cell? _ _ hw252_0; first | rwa [add_block] at this | exact this) GW259.out))) _).trans (((cell_far (p := ⟨gb259, _, none⟩) (by first | exact Nat.ne_of_lt (Nat.lt_of_lt_of_le (by have := World.block_lt_of_cell? _ _ hw252_0; first | rwa [add_block] at this | exact this) GW259.out) | (rw [add_block]; exact Nat.ne_of_lt (Nat.lt_of_lt_of_le (by have := World.block_lt_of_cell? _ _ hw252_0; first | rwa [add_block] at this | exact this) GW259.out)) | (show (Addr.add _ _).block ≠ _; rw [add_block]; exact Nat.ne_of_lt (Nat.lt_of_lt_of_le (by have := World.block_lt_of_cell? _ _ hw252_0; first | rwa [add_block] at this | exact this) GW259.out)) | (dsimp only; exact Nat.ne_of_lt (Nat.lt_of_lt_of_le (by have := World.block_lt_of_cell? _ _ hw252_0; first | rwa [add_block] at this | exact this) GW259.out))) _).trans (((cell_far (p := ⟨gb259, _, none⟩) (by first | exact Nat.ne_of_lt (Nat.lt_of_lt_of_le (by have := World.block_lt_of_cell? _ _ hw252_0; first | rwa [add_block] at this | exact this) GW259.out) | (rw [add_block]; exact Nat.ne_of_lt (Nat.lt_of_lt_of_le (by have := World.block_lt_of_cell? _ _ hw252_0; first | rwa [add_block] at this | exact this) GW259.out)) | (show (Addr.add _ _).block ≠ _; rw [add_block]; exact Nat.ne_of_lt (Nat.lt_of_lt_of_le (by have := World.block_lt_of_cell? _ _ hw252_0; first | rwa [add_block] at this | exact this) GW259.out)) | (dsimp only; exact Nat.ne_of_lt (Nat.lt_of_lt_of_le (by have := World.block_lt_of_cell? _ _ hw252_0; first | rwa [add_block] at this | exact this) GW259.out))) _).trans (hHeld.2.2.2))))))⟩ (fun hHeld => ?_)
         clear hK K
         refine pure_ (i := 11) (N := some 10) (v := ?_) (a' := ?_) #[true, true, true, true, true, true, true, true, true, true, true, true] rfl rfl (any_of HT_.out (by kernel_rfl)) (fun _ _ _ h => h) (Or.inl ⟨by rfl, ?_⟩) ?_ ?_
         rotate_left
         ·
          intro w'
          go_simp
          with_reducible rfl
         rotate_left
         ·
          simp only [Act.put, List.setIfInBounds_toArray, List.set_cons_zero, List.set_cons_succ, i64_w, i32_w]
          rfl
         refine done_ (done_of HT_.out (by kernel_rfl)) ?_
         try go_wp2
         have n0_ : Aside0 (Kd.R (Kd.int .i32) 21 (((w23.setCell ⟨gb259, 0, none⟩ (.int .i64 t253)).setCell ⟨gb259, 1, none⟩ (.int .i64 t254)).setCell ⟨gb259, 2, none⟩ (.int .i64 t255)) w.heap.size (fun _ => True) v257 t256) := ⟨by (with_reducible repeat (first | apply Kd.R_alloc | apply Kd.R_drewN | apply Kd.R_drew)); exact Kd.R_mono (Kd.R_far (p := ⟨gb259, 2, none⟩) (Kd.R_far (p := ⟨gb259, 1, none⟩) (Kd.R_far (p := ⟨gb259, 0, none⟩) (Kd.R_types HO258.out BK259.out (by decide)) (fun _ hk => hk.2) (.int .i64 t253)) (fun _ hk => hk.2) (.int .i64 t254)) (fun _ hk => hk.2) (.int .i64 t255)) (fun _ hk => trivial)⟩
         have n1_ : Aside0 ((((w23.setCell ⟨gb259, 0, none⟩ (.int .i64 t253)).setCell ⟨gb259, 1, none⟩ (.int .i64 t254)).setCell ⟨gb259, 2, none⟩ (.int .i64 t255)).heap[gb251]? = some (.cells #[.int .i64 x252000_1, .int .i64 x252001_1, .int .i64 x252002_1] 25 (0, 0))) := ⟨by (with_reducible repeat (first | refine blk_drewN ?_ _ | refine blk_drew ?_ | refine blk_alloc ?_ _)); refine blk_far ?_ NB251_259.out _; (with_reducible repeat (first | refine blk_drewN ?_ _ | refine blk_drew ?_ | refine blk_alloc ?_ _)); refine blk_far ?_ NB251_259.out _; (with_reducible repeat (first | refine blk_drewN ?_ _ | refine blk_drew ?_ | refine blk_alloc ?_ _)); refine blk_far ?_ NB251_259.out _; (with_reducible repeat (first | refine blk_drewN ?_ _ | refine blk_drew ?_ | refine blk_alloc ?_ _)); exact BK251.out⟩
         have n2_ : Aside0 ((((w23.setCell ⟨gb259, 0, none⟩ (.int .i64 t253)).setCell ⟨gb259, 1, none⟩ (.int .i64 t254)).setCell ⟨gb259, 2, none⟩ (.int .i64 t255)).heap[gb259]? = some (.cells #[.int .i64 t253, .int .i64 t254, .int .i64 t255] 25 (0, 0))) := ⟨by (with_reducible repeat (first | refine blk_drewN ?_ _ | refine blk_drew ?_ | refine blk_alloc ?_ _)); refine blk_put (cs := #[.int .i64 t253, .int .i64 t254, .int .i64 0]) ?_ 2 _ rfl; (with_reducible repeat (first | refine blk_drewN ?_ _ | refine blk_drew ?_ | refine blk_alloc ?_ _)); refine blk_put (cs := #[.int .i64 t253, .int .i64 0, .int .i64 0]) ?_ 1 _ rfl; (with_reducible repeat (first | refine blk_drewN ?_ _ | refine blk_drew ?_ | refine blk_alloc ?_ _)); refine blk_put (cs := #[.int .i64 0, .int .i64 0, .int .i64 0]) ?_ 0 _ rfl; (with_reducible repeat (first | refine blk_drewN ?_ _ | refine blk_drew ?_ | refine blk_alloc ?_ _)); exact BK259.out⟩
         have n3_ : Aside0 (Below w.heap.size w (((w23.setCell ⟨gb259, 0, none⟩ (.int .i64 t253)).setCell ⟨gb259, 1, none⟩ (.int .i64 t254)).setCell ⟨gb259, 2, none⟩ (.int .i64 t255))) := ⟨by repeat (first | (with_reducible first | exact HB.out | apply below_alloc | apply pw_below_drewN | apply below_drew1 | refine below_set ?_ GE251.out | refine below_set ?_ GE259.out) | exact HB.out)⟩
         (try clear HO258)
         (try clear BK251)
         (try clear BK259)
         (try clear HB)
         generalize (((w23.setCell ⟨gb259, 0, none⟩ (.int .i64 t253)).setCell ⟨gb259, 1, none⟩ (.int .i64 t254)).setCell ⟨gb259, 2, none⟩ (.int .i64 t255)) = w27 at n0_ n1_ n2_ n3_ ⊢
         have HO258 := n0_
         have BK251 := n1_
         have BK259 := n2_
         have HB := n3_
         clear n0_ n1_ n2_ n3_
         have n0_ := Aside0.mk (Kd.R_drew HO258.out)
         have n1_ := Aside0.mk (blk_drew BK251.out)
         have n2_ := Aside0.mk (blk_drew BK259.out)
         have n3_ := Aside0.mk (below_drew1 HB.out)
         clear HO258
         clear BK251
         clear BK259
         clear HB
         have HO258 := n0_
         have BK251 := n1_
         have BK259 := n2_
         have HB := n3_
         clear n0_ n1_ n2_ n3_
         have p260 : 0 ≤ (x8_1 : Int) := of_decide_eq_true (by first | (with_reducible assumption) | assumption)
         have q260 : x8_1 < (l0.length : Int) := of_decide_eq_true (by first | (with_reducible assumption) | assumption)
         obtain ⟨ad260, e260, hx260_0⟩ := Kd.at_int HR0.out x8_1 p260 q260
         have hw260_0 := hx260_0
         obtain rfl : ad252 = ad260 := (by injection e260)
         replace hx260_0 := (HB.out.cell (World.block_lt_of_cell? w _ hx260_0)).trans hx260_0
         replace p260 := eq_true p260
         replace q260 := eq_true q260
         refine start_ (n := 12) (S := fun w' => w'.cell? ⟨gb251, 0, none⟩ = some (.int .i64 x252000_1) ∧ w'.cell? ⟨gb251, 1, none⟩ = some (.int .i64 x252001_1) ∧ w'.cell? ⟨gb251, 2, none⟩ = some (.int .i64 x252002_1) ∧ w'.cell? (ad252.add (x8_1).toNat) = some (.int .u8 (rd l0 x8_1))) (ds := []) #[false, false, false, false, false, false, false, false, false, false, false, false] (by kernel_rfl) rfl rfl ⟨(blk_cell BK251.out 0).trans rfl, (blk_cell BK251.out 1).trans rfl, (blk_cell BK251.out 2).trans rfl, ((HB.out.cell (World.block_lt_of_cell? w _ hw260_0)).trans hw260_0)⟩ (fun hHeld => ?_); refine with_tabW polyptychlaw1_UtfdTells.tab8 polyptychlaw1_UtfdTells.bits8 (fun HT_ HW_ => ?_)
         generalize w27.drew = w28 at HO258 BK251 BK259 HB hx260_0 hHeld ⊢
         refine pure_ (i := 1) (N := some 39) (v := ?_) (a' := ?_) #[false, true, false, false, false, false, false, false, false, false, false, false] rfl rfl (any_of HT_.out (by kernel_rfl)) (fun _ _ _ h => h) (Or.inl ⟨by rfl, ?_⟩) ?_ ?_
         rotate_left
         ·
          intro w'
          go_simp
          with_reducible rfl
         rotate_left
         ·
          simp only [Act.put, List.setIfInBounds_toArray, List.set_cons_zero, List.set_cons_succ, i64_w, i32_w]
          rfl
         refine pure_ (i := 2) (N := some 40) (v := ?_) (a' := ?_) #[false, true, true, false, false, false, false, false, false, false, false, false] rfl rfl (any_of HT_.out (by kernel_rfl)) (fun _ _ _ h => h) (Or.inl ⟨by rfl, ?_⟩) ?_ ?_
         rotate_left
         ·
          intro w'
          go_simp
          with_reducible rfl
         rotate_left
         ·
          simp only [Act.put, List.setIfInBounds_toArray, List.set_cons_zero, List.set_cons_succ, i64_w, i32_w]
          rfl
         refine pure_ (i := 3) (N := some 41) (v := ?_) (a' := ?_) #[false, true, true, true, false, false, false, false, false, false, false, false] rfl rfl (any_of HT_.out (by kernel_rfl)) (fun _ _ _ h => h) (Or.inl ⟨by rfl, ?_⟩) ?_ ?_
         rotate_left
         ·
          intro w'
          go_simp
          with_reducible rfl
         rotate_left
         ·
          simp only [Act.put, List.setIfInBounds_toArray, List.set_cons_zero, List.set_cons_succ, i64_w, i32_w]
          rfl
         refine take_ (i := 0) (N := some 38) (v := ?_) (a' := ?_) #[true, true, true, true, false, false, false, false, false, false, false, false] rfl rfl (take_ofW HT_.out HW_.out (by kernel_rfl)) (fun _ _ _ h => h) (Or.inl ⟨by rfl, ?_⟩) hHeld ?_ ?_
         rotate_left
         ·
          rintro w' ⟨s0, s1, s2, s3⟩
          go_simp
          with_reducible rfl
         rotate_left
         ·
          simp only [Act.put, List.setIfInBounds_toArray, List.set_cons_zero, List.set_cons_succ, i64_w, i32_w]
          rfl
         refine take_ (i := 4) (N := some 42) (v := ?_) (a' := ?_) #[true, true, true, true, true, false, false, false, false, false, false, false] rfl rfl (take_ofW HT_.out HW_.out (by kernel_rfl)) (fun _ _ _ h => h) (Or.inl ⟨by rfl, ?_⟩) hHeld ?_ ?_
         rotate_left
         ·
          rintro w' ⟨s0, s1, s2, s3⟩
          go_simp
          with_reducible rfl
         rotate_left
         ·
          simp only [Act.put, List.setIfInBounds_toArray, List.set_cons_zero, List.set_cons_succ, i64_w, i32_w]
          rfl
         refine join_ (σ := Value × Nat) 2 #[true, true, true, true, true, true, true, true, true, true, false, false] (fun s_ => [(43, .tuple #[.agg #[.int .i64 t261, .int .i64 t262, .int .i64 t263], s_.1]), (11, .pointer (some ⟨s_.2, 0, none⟩)), (37, .tuple #[.agg #[.int .i64 t261, .int .i64 t262, .int .i64 t263], s_.1]), (44, .agg #[.int .i64 t261, .int .i64 t262, .int .i64 t263]), (45, s_.1)]) (fun s_ w' => (w'.cell? ⟨gb251, 0, none⟩ = some (.int .i64 x252000_1) ∧ w'.cell? ⟨gb251, 1, none⟩ = some (.int .i64 x252001_1) ∧ w'.cell? ⟨gb251, 2, none⟩ = some (.int .i64 x252002_1) ∧ w'.cell? (ad252.add (x8_1).toNat) = some (.int .u8 (rd l0 x8_1))) ∧ (Kd.R (Kd.int .i32) 21 w' w.heap.size (fun k_ => some k_ ≠ (s_.1 : Value).ownBlock) v257 t256) ∧ (Kd.R (Kd.int .i32) 21 w' w.heap.size (fun k_ => some k_ ≠ (v257 : Value).ownBlock) s_.1 t264) ∧ (w'.heap[gb251]? = some (.cells #[.int .i64 x252000_1, .int .i64 x252001_1, .int .i64 x252002_1] 25 (0, 0))) ∧ (w'.heap[gb259]? = some (.cells #[.int .i64 t253, .int .i64 t254, .int .i64 t255] 25 (0, 0))) ∧ (w'.heap[s_.2]? = some (.cells #[.int .i64 0, .int .i64 0, .int .i64 0] 25 (0, 0))) ∧ (w.heap.size ≤ s_.2) ∧ (w.heap.size ≤ s_.2) ∧ (gb251 ≠ s_.2) ∧ (s_.2 ≠ gb251) ∧ (gb259 ≠ s_.2) ∧ (s_.2 ≠ gb259) ∧ (Below w.heap.size w w')) ?_ ?_
         rotate_left
         ·
          intro hCont
          refine two_ (i := 5) (j := 9) (Ni := some 43) (Nj := some 11) #[true, true, true, true, true, true, false, false, false, false, false, false] #[true, true, true, true, true, false, false, false, false, true, false, false] rfl rfl rfl rfl (two_of HT_.out (by kernel_rfl)) (by decide) (by decide) (fun K hK => ?_) (fun K hK => ?_)
          ·
           skip
           refine goes_ Try.func11 (by kernel_rfl) rfl #[.agg #[.int .i64 x252000_1, .int .i64 x252001_1, .int .i64 x252002_1], .int .u8 (rd l0 x8_1)] (by rfl) rfl rfl (by (try simp only [List.map_toArray, List.map_cons, List.map_nil]); first | done | rfl | (simp only [List.length_drop, List.length_take]; rfl)) ?_
           with_reducible refine (polyptychref1_Utf.calls k1 x252000_1 x252001_1 x252002_1 (rd l0 x8_1) t261 t262 t263 t264 _ A12.out).mono ?_
           rintro e w29 ⟨v265, rfl, ho0, hb⟩
           refine ⟨_, rfl, ?_⟩
           have n0_ := Aside0.mk (Kd.R_elder' (by (with_reducible repeat (first | apply Kd.R_alloc | apply Kd.R_drewN | apply Kd.R_drew)); exact HO258.out) (Kd.R_base ho0) hb)
           have n1_ := Aside0.mk (Kd.R_lower (Kd.R_new' ho0 (Kd.R_lt (by (with_reducible repeat (first | apply Kd.R_alloc | apply Kd.R_drewN | apply Kd.R_drew)); exact HO258.out))) (below_size (by repeat (first | (with_reducible first | exact HB.out | apply below_alloc | apply pw_below_drewN | apply below_drew1 | refine below_set ?_ GE251.out | refine below_set ?_ GE259.out) | exact HB.out))))
           have n2_ := Aside0.mk (blk_below (g := gb251) (o := .cells #[.int .i64 x252000_1, .int .i64 x252001_1, .int .i64 x252002_1] 25 (0, 0)) (by (with_reducible repeat (first | refine blk_drewN ?_ _ | refine blk_drew ?_ | refine blk_alloc ?_ _)); exact BK251.out) hb)
           have n3_ := Aside0.mk (blk_below (g := gb259) (o := .cells #[.int .i64 t253, .int .i64 t254, .int .i64 t255] 25 (0, 0)) (by (with_reducible repeat (first | refine blk_drewN ?_ _ | refine blk_drew ?_ | refine blk_alloc ?_ _)); exact BK259.out) hb)
           have n4_ := Aside0.mk (below_step (by repeat (first | (with_reducible first | exact HB.out | apply below_alloc | apply pw_below_drewN | apply below_drew1 | refine below_set ?_ GE251.out | refine below_set ?_ GE259.out) | exact HB.out)) hb)
           clear HO258
           clear BK251
           clear BK259
           clear HB
           have HO258 := n0_
           have HO266 := n1_
           have BK251 := n2_
           have BK259 := n3_
           have HB := n4_
           clear n0_ n1_ n2_ n3_ n4_
           (try clear hb)
           (try clear hb2)
           (try clear hk)
           (try clear hi)
           (try clear ho0)
           refine hK.out _ _ ⟨(blk_cell BK251.out 0).trans rfl, (blk_cell BK251.out 1).trans rfl, (blk_cell BK251.out 2).trans rfl, ((HB.out.cell (World.block_lt_of_cell? w _ hw260_0)).trans hw260_0)⟩ (fun hHeld => ?_)
           clear hK K
           refine norm_ (a' := ?_) ?_ ?_
           rotate_left
           ·
            show Act.put _ (some 43) _ = _
            simp only [Act.put, List.setIfInBounds_toArray, List.set_cons_zero, List.set_cons_succ, i64_w, i32_w]
            rfl
           refine pure_ (i := 6) (N := some 37) (v := ?_) (a' := ?_) #[true, true, true, true, true, true, true, false, false, false, false, false] rfl rfl (any_of HT_.out (by kernel_rfl)) (fun _ _ _ h => h) (Or.inl ⟨by rfl, ?_⟩) ?_ ?_
           rotate_left
           ·
            intro w'
            go_simp
            with_reducible rfl
           rotate_left
           ·
            simp only [Act.put, List.setIfInBounds_toArray, List.set_cons_zero, List.set_cons_succ, i64_w, i32_w]
            rfl
           refine pure_ (i := 7) (N := some 44) (v := ?_) (a' := ?_) #[true, true, true, true, true, true, true, true, false, false, false, false] rfl rfl (any_of HT_.out (by kernel_rfl)) (fun _ _ _ h => h) (Or.inl ⟨by rfl, ?_⟩) ?_ ?_
           rotate_left
           ·
            intro w'
            go_simp
            with_reducible rfl
           rotate_left
           ·
            simp only [Act.put, List.setIfInBounds_toArray, List.set_cons_zero, List.set_cons_succ, i64_w, i32_w]
            rfl
           refine pure_ (i := 8) (N := some 45) (v := ?_) (a' := ?_) #[true, true, true, true, true, true, true, true, true, false, false, false] rfl rfl (any_of HT_.out (by kernel_rfl)) (fun _ _ _ h => h) (Or.inl ⟨by rfl, ?_⟩) ?_ ?_
           rotate_left
           ·
            intro w'
            go_simp
            with_reducible rfl
           rotate_left
           ·
            simp only [Act.put, List.setIfInBounds_toArray, List.set_cons_zero, List.set_cons_succ, i64_w, i32_w]
            rfl
           refine one_ (i := 9) (N := some 11) #[true, true, true, true, true, true, true, true, true, true, false, false] rfl rfl (one_of HT_.out (by kernel_rfl)) (by decide) (fun K hK => ?_)
           refine box_step ?hg (N := 11) ?hd (cs := #[.int .i64 0, .int .i64 0, .int .i64 0]) (t := 25) ?hr ?_; (case hd => rfl); (case hg => rfl); (case hr => first | (go_simp; done) | (go_simp; rfl))
           intro gb267 hg w30 hbox hb
           have n0_ := Aside0.mk (Kd.R_below (by (with_reducible repeat (first | apply Kd.R_alloc | apply Kd.R_drewN | apply Kd.R_drew)); exact HO258.out) hb)
           have n1_ := Aside0.mk (Kd.R_below (by (with_reducible repeat (first | apply Kd.R_alloc | apply Kd.R_drewN | apply Kd.R_drew)); exact HO266.out) hb)
           have n2_ := Aside0.mk (blk_below (g := gb251) (o := .cells #[.int .i64 x252000_1, .int .i64 x252001_1, .int .i64 x252002_1] 25 (0, 0)) (by (with_reducible repeat (first | refine blk_drewN ?_ _ | refine blk_drew ?_ | refine blk_alloc ?_ _)); exact BK251.out) hb)
           have n3_ := Aside0.mk (blk_below (g := gb259) (o := .cells #[.int .i64 t253, .int .i64 t254, .int .i64 t255] 25 (0, 0)) (by (with_reducible repeat (first | refine blk_drewN ?_ _ | refine blk_drew ?_ | refine blk_alloc ?_ _)); exact BK259.out) hb)
           have n4_ := Aside0.mk (below_step (by repeat (first | (with_reducible first | exact HB.out | apply below_alloc | apply pw_below_drewN | apply below_drew1 | refine below_set ?_ GE251.out | refine below_set ?_ GE259.out) | exact HB.out)) hb)
           have n5_ := Aside0.mk (hbox)
           have n6_ := Aside0.mk ((by rw [hg]; exact (below_size (by repeat (first | (with_reducible first | exact HB.out | apply below_alloc | apply pw_below_drewN | apply below_drew1 | refine below_set ?_ GE251.out | refine below_set ?_ GE259.out) | exact HB.out))) : w.heap.size ≤ gb267))
           have n7_ := Aside0.mk ((by rw [hg]; exact (below_size (by repeat (first | (with_reducible first | exact HB.out | apply below_alloc | apply pw_below_drewN | apply below_drew1 | refine below_set ?_ GE251.out | refine below_set ?_ GE259.out) | exact HB.out))) : w.heap.size ≤ gb267))
           have n8_ := Aside0.mk ((by rw [hg]; exact Nat.ne_of_lt (blk_lt (g := gb251) (o := .cells #[.int .i64 x252000_1, .int .i64 x252001_1, .int .i64 x252002_1] 25 (0, 0)) (by (with_reducible repeat (first | refine blk_drewN ?_ _ | refine blk_drew ?_ | refine blk_alloc ?_ _)); exact BK251.out)) : gb251 ≠ gb267))
           have n9_ := Aside0.mk ((by rw [hg]; exact Nat.ne_of_gt (blk_lt (g := gb251) (o := .cells #[.int .i64 x252000_1, .int .i64 x252001_1, .int .i64 x252002_1] 25 (0, 0)) (by (with_reducible repeat (first | refine blk_drewN ?_ _ | refine blk_drew ?_ | refine blk_alloc ?_ _)); exact BK251.out)) : gb267 ≠ gb251))
           have n10_ := Aside0.mk ((by rw [hg]; exact Nat.ne_of_lt (blk_lt (g := gb259) (o := .cells #[.int .i64 t253, .int .i64 t254, .int .i64 t255] 25 (0, 0)) (by (with_reducible repeat (first | refine blk_drewN ?_ _ | refine blk_drew ?_ | refine blk_alloc ?_ _)); exact BK259.out)) : gb259 ≠ gb267))
           have n11_ := Aside0.mk ((by rw [hg]; exact Nat.ne_of_gt (blk_lt (g := gb259) (o := .cells #[.int .i64 t253, .int .i64 t254, .int .i64 t255] 25 (0, 0)) (by (with_reducible repeat (first | refine blk_drewN ?_ _ | refine blk_drew ?_ | refine blk_alloc ?_ _)); exact BK259.out)) : gb267 ≠ gb259))
           clear HO258
           clear HO266
           clear BK251
           clear BK259
           clear HB
           have HO258 := n0_
           have HO266 := n1_
           have BK251 := n2_
           have BK259 := n3_
           have HB := n4_
           have BK267 := n5_
           have GW267 := n6_
           have GE267 := n7_
           have NB251_267 := n8_
           have NB267_251 := n9_
           have NB259_267 := n10_
           have NB267_259 := n11_
           clear n0_ n1_ n2_ n3_ n4_ n5_ n6_ n7_ n8_ n9_ n10_ n11_
           clear hb hbox hg
           refine hK.out _ _ ⟨(blk_cell BK251.out 0).trans rfl, (blk_cell BK251.out 1).trans rfl, (blk_cell BK251.out 2).trans rfl, ((HB.out.cell (World.block_lt_of_cell? w _ hw260_0)).trans hw260_0)⟩ (fun hHeld => ?_)
           clear hK K
           refine norm_ (a' := ?_) ?_ ?_
           rotate_left
           ·
            show Act.put _ (some 11) _ = _
            simp only [Act.put, List.setIfInBounds_toArray, List.set_cons_zero, List.set_cons_succ, i64_w, i32_w]
            rfl
           exact norm_ (by simp only [putAll, Act.put, List.setIfInBounds_toArray, List.set_cons_zero, List.set_cons_succ]) (hCont (v265, gb267) _ ⟨hHeld, (by (with_reducible repeat (first | apply Kd.R_alloc | apply Kd.R_drewN | apply Kd.R_drew)); exact Kd.R_mono HO258.out (fun _ hk => hk.2)), (by (with_reducible repeat (first | apply Kd.R_alloc | apply Kd.R_drewN | apply Kd.R_drew)); exact Kd.R_mono HO266.out (fun _ hk => hk.2)), (by (with_reducible repeat (first | refine blk_drewN ?_ _ | refine blk_drew ?_ | refine blk_alloc ?_ _)); exact BK251.out), (by (with_reducible repeat (first | refine blk_drewN ?_ _ | refine blk_drew ?_ | refine blk_alloc ?_ _)); exact BK259.out), (by (with_reducible repeat (first | refine blk_drewN ?_ _ | refine blk_drew ?_ | refine blk_alloc ?_ _)); exact BK267.out), GW267.out, GE267.out, NB251_267.out, NB267_251.out, NB259_267.out, NB267_259.out, (by repeat (first | (with_reducible first | exact HB.out | apply below_alloc | apply pw_below_drewN | apply below_drew1 | refine below_set ?_ GE251.out | refine below_set ?_ GE259.out | refine below_set ?_ GE267.out) | exact HB.out))⟩)
          ·
           skip
           refine box_step ?hg (N := 11) ?hd (cs := #[.int .i64 0, .int .i64 0, .int .i64 0]) (t := 25) ?hr ?_; (case hd => rfl); (case hg => rfl); (case hr => first | (go_simp; done) | (go_simp; rfl))
           intro gb267 hg w29 hbox hb
           have n0_ := Aside0.mk (Kd.R_below (by (with_reducible repeat (first | apply Kd.R_alloc | apply Kd.R_drewN | apply Kd.R_drew)); exact HO258.out) hb)
           have n1_ := Aside0.mk (blk_below (g := gb251) (o := .cells #[.int .i64 x252000_1, .int .i64 x252001_1, .int .i64 x252002_1] 25 (0, 0)) (by (with_reducible repeat (first | refine blk_drewN ?_ _ | refine blk_drew ?_ | refine blk_alloc ?_ _)); exact BK251.out) hb)
           have n2_ := Aside0.mk (blk_below (g := gb259) (o := .cells #[.int .i64 t253, .int .i64 t254, .int .i64 t255] 25 (0, 0)) (by (with_reducible repeat (first | refine blk_drewN ?_ _ | refine blk_drew ?_ | refine blk_alloc ?_ _)); exact BK259.out) hb)
           have n3_ := Aside0.mk (below_step (by repeat (first | (with_reducible first | exact HB.out | apply below_alloc | apply pw_below_drewN | apply below_drew1 | refine below_set ?_ GE251.out | refine below_set ?_ GE259.out) | exact HB.out)) hb)
           have n4_ := Aside0.mk (hbox)
           have n5_ := Aside0.mk ((by rw [hg]; exact (below_size (by repeat (first | (with_reducible first | exact HB.out | apply below_alloc | apply pw_below_drewN | apply below_drew1 | refine below_set ?_ GE251.out | refine below_set ?_ GE259.out) | exact HB.out))) : w.heap.size ≤ gb267))
           have n6_ := Aside0.mk ((by rw [hg]; exact (below_size (by repeat (first | (with_reducible first | exact HB.out | apply below_alloc | apply pw_below_drewN | apply below_drew1 | refine below_set ?_ GE251.out | refine below_set ?_ GE259.out) | exact HB.out))) : w.heap.size ≤ gb267))
           have n7_ := Aside0.mk ((by rw [hg]; exact Nat.ne_of_lt (blk_lt (g := gb251) (o := .cells #[.int .i64 x252000_1, .int .i64 x252001_1, .int .i64 x252002_1] 25 (0, 0)) (by (with_reducible repeat (first | refine blk_drewN ?_ _ | refine blk_drew ?_ | refine blk_alloc ?_ _)); exact BK251.out)) : gb251 ≠ gb267))
           have n8_ := Aside0.mk ((by rw [hg]; exact Nat.ne_of_gt (blk_lt (g := gb251) (o := .cells #[.int .i64 x252000_1, .int .i64 x252001_1, .int .i64 x252002_1] 25 (0, 0)) (by (with_reducible repeat (first | refine blk_drewN ?_ _ | refine blk_drew ?_ | refine blk_alloc ?_ _)); exact BK251.out)) : gb267 ≠ gb251))
           have n9_ := Aside0.mk ((by rw [hg]; exact Nat.ne_of_lt (blk_lt (g := gb259) (o := .cells #[.int .i64 t253, .int .i64 t254, .int .i64 t255] 25 (0, 0)) (by (with_reducible repeat (first | refine blk_drewN ?_ _ | refine blk_drew ?_ | refine blk_alloc ?_ _)); exact BK259.out)) : gb259 ≠ gb267))
           have n10_ := Aside0.mk ((by rw [hg]; exact Nat.ne_of_gt (blk_lt (g := gb259) (o := .cells #[.int .i64 t253, .int .i64 t254, .int .i64 t255] 25 (0, 0)) (by (with_reducible repeat (first | refine blk_drewN ?_ _ | refine blk_drew ?_ | refine blk_alloc ?_ _)); exact BK259.out)) : gb267 ≠ gb259))
           clear HO258
           clear BK251
           clear BK259
           clear HB
           have HO258 := n0_
           have BK251 := n1_
           have BK259 := n2_
           have HB := n3_
           have BK267 := n4_
           have GW267 := n5_
           have GE267 := n6_
           have NB251_267 := n7_
           have NB267_251 := n8_
           have NB259_267 := n9_
           have NB267_259 := n10_
           clear n0_ n1_ n2_ n3_ n4_ n5_ n6_ n7_ n8_ n9_ n10_
           clear hb hbox hg
           refine hK.out _ _ ⟨(blk_cell BK251.out 0).trans rfl, (blk_cell BK251.out 1).trans rfl, (blk_cell BK251.out 2).trans rfl, ((HB.out.cell (World.block_lt_of_cell? w _ hw260_0)).trans hw260_0)⟩ (fun hHeld => ?_)
           clear hK K
           refine norm_ (a' := ?_) ?_ ?_
           rotate_left
           ·
            show Act.put _ (some 11) _ = _
            simp only [Act.put, List.setIfInBounds_toArray, List.set_cons_zero, List.set_cons_succ, i64_w, i32_w]
            rfl
           refine one_ (i := 5) (N := some 43) #[true, true, true, true, true, true, false, false, false, true, false, false] rfl rfl (one_of HT_.out (by kernel_rfl)) (by decide) (fun K hK => ?_)
           refine goes_ Try.func11 (by kernel_rfl) rfl #[.agg #[.int .i64 x252000_1, .int .i64 x252001_1, .int .i64 x252002_1], .int .u8 (rd l0 x8_1)] (by rfl) rfl rfl (by (try simp only [List.map_toArray, List.map_cons, List.map_nil]); first | done | rfl | (simp only [List.length_drop, List.length_take]; rfl)) ?_
           with_reducible refine (polyptychref1_Utf.calls k1 x252000_1 x252001_1 x252002_1 (rd l0 x8_1) t261 t262 t263 t264 _ A12.out).mono ?_
           rintro e w30 ⟨v265, rfl, ho0, hb⟩
           refine ⟨_, rfl, ?_⟩
           have n0_ := Aside0.mk (Kd.R_elder' (by (with_reducible repeat (first | apply Kd.R_alloc | apply Kd.R_drewN | apply Kd.R_drew)); exact HO258.out) (Kd.R_base ho0) hb)
           have n1_ := Aside0.mk (Kd.R_lower (Kd.R_new' ho0 (Kd.R_lt (by (with_reducible repeat (first | apply Kd.R_alloc | apply Kd.R_drewN | apply Kd.R_drew)); exact HO258.out))) (below_size (by repeat (first | (with_reducible first | exact HB.out | apply below_alloc | apply pw_below_drewN | apply below_drew1 | refine below_set ?_ GE251.out | refine below_set ?_ GE259.out | refine below_set ?_ GE267.out) | exact HB.out))))
           have n2_ := Aside0.mk (blk_below (g := gb251) (o := .cells #[.int .i64 x252000_1, .int .i64 x252001_1, .int .i64 x252002_1] 25 (0, 0)) (by (with_reducible repeat (first | refine blk_drewN ?_ _ | refine blk_drew ?_ | refine blk_alloc ?_ _)); exact BK251.out) hb)
           have n3_ := Aside0.mk (blk_below (g := gb259) (o := .cells #[.int .i64 t253, .int .i64 t254, .int .i64 t255] 25 (0, 0)) (by (with_reducible repeat (first | refine blk_drewN ?_ _ | refine blk_drew ?_ | refine blk_alloc ?_ _)); exact BK259.out) hb)
           have n4_ := Aside0.mk (blk_below (g := gb267) (o := .cells #[.int .i64 0, .int .i64 0, .int .i64 0] 25 (0, 0)) (by (with_reducible repeat (first | refine blk_drewN ?_ _ | refine blk_drew ?_ | refine blk_alloc ?_ _)); exact BK267.out) hb)
           have n5_ := Aside0.mk (below_step (by repeat (first | (with_reducible first | exact HB.out | apply below_alloc | apply pw_below_drewN | apply below_drew1 | refine below_set ?_ GE251.out | refine below_set ?_ GE259.out | refine below_set ?_ GE267.out) | exact HB.out)) hb)
           clear HO258
           clear BK251
           clear BK259
           clear BK267
           clear HB
           have HO258 := n0_
           have HO266 := n1_
           have BK251 := n2_
           have BK259 := n3_
           have BK267 := n4_
           have HB := n5_
           clear n0_ n1_ n2_ n3_ n4_ n5_
           (try clear hb)
           (try clear hb2)
           (try clear hk)
           (try clear hi)
           (try clear ho0)
           refine hK.out _ _ ⟨(blk_cell BK251.out 0).trans rfl, (blk_cell BK251.out 1).trans rfl, (blk_cell BK251.out 2).trans rfl, ((HB.out.cell (World.block_lt_of_cell? w _ hw260_0)).trans hw260_0)⟩ (fun hHeld => ?_)
           clear hK K
           refine norm_ (a' := ?_) ?_ ?_
           rotate_left
           ·
            show Act.put _ (some 43) _ = _
            simp only [Act.put, List.setIfInBounds_toArray, List.set_cons_zero, List.set_cons_succ, i64_w, i32_w]
            rfl
           refine pure_ (i := 6) (N := some 37) (v := ?_) (a' := ?_) #[true, true, true, true, true, true, true, false, false, true, false, false] rfl rfl (any_of HT_.out (by kernel_rfl)) (fun _ _ _ h => h) (Or.inl ⟨by rfl, ?_⟩) ?_ ?_
           rotate_left
           ·
            intro w'
            go_simp
            with_reducible rfl
           rotate_left
           ·
            simp only [Act.put, List.setIfInBounds_toArray, List.set_cons_zero, List.set_cons_succ, i64_w, i32_w]
            rfl
           refine pure_ (i := 7) (N := some 44) (v := ?_) (a' := ?_) #[true, true, true, true, true, true, true, true, false, true, false, false] rfl rfl (any_of HT_.out (by kernel_rfl)) (fun _ _ _ h => h) (Or.inl ⟨by rfl, ?_⟩) ?_ ?_
           rotate_left
           ·
            intro w'
            go_simp
            with_reducible rfl
           rotate_left
           ·
            simp only [Act.put, List.setIfInBounds_toArray, List.set_cons_zero, List.set_cons_succ, i64_w, i32_w]
            rfl
           refine pure_ (i := 8) (N := some 45) (v := ?_) (a' := ?_) #[true, true, true, true, true, true, true, true, true, true, false, false] rfl rfl (any_of HT_.out (by kernel_rfl)) (fun _ _ _ h => h) (Or.inl ⟨by rfl, ?_⟩) ?_ ?_
           rotate_left
           ·
            intro w'
            go_simp
            with_reducible rfl
           rotate_left
           ·
            simp only [Act.put, List.setIfInBounds_toArray, List.set_cons_zero, List.set_cons_succ, i64_w, i32_w]
            rfl
           exact norm_ (by simp only [putAll, Act.put, List.setIfInBounds_toArray, List.set_cons_zero, List.set_cons_succ]) (hCont (v265, gb267) _ ⟨hHeld, (by (with_reducible repeat (first | apply Kd.R_alloc | apply Kd.R_drewN | apply Kd.R_drew)); exact Kd.R_mono HO258.out (fun _ hk => hk.2)), (by (with_reducible repeat (first | apply Kd.R_alloc | apply Kd.R_drewN | apply Kd.R_drew)); exact Kd.R_mono HO266.out (fun _ hk => hk.2)), (by (with_reducible repeat (first | refine blk_drewN ?_ _ | refine blk_drew ?_ | refine blk_alloc ?_ _)); exact BK251.out), (by (with_reducible repeat (first | refine blk_drewN ?_ _ | refine blk_drew ?_ | refine blk_alloc ?_ _)); exact BK259.out), (by (with_reducible repeat (first | refine blk_drewN ?_ _ | refine blk_drew ?_ | refine blk_alloc ?_ _)); exact BK267.out), GW267.out, GE267.out, NB251_267.out, NB267_251.out, NB259_267.out, NB267_259.out, (by repeat (first | (with_reducible first | exact HB.out | apply below_alloc | apply pw_below_drewN | apply below_drew1 | refine below_set ?_ GE251.out | refine below_set ?_ GE259.out | refine below_set ?_ GE267.out) | exact HB.out))⟩)
         rintro ⟨v265, gb267⟩ w31 ⟨hS_, h0_, h1_, h2_, h3_, h4_, h5_, h6_, h7_, h8_, h9_, h10_, h11_⟩
         have n0_ : Aside0 (Kd.R (Kd.int .i32) 21 w31 w.heap.size (fun k_ => some k_ ≠ (v265 : Value).ownBlock) v257 t256) := ⟨h0_⟩
         have n1_ : Aside0 (Kd.R (Kd.int .i32) 21 w31 w.heap.size (fun k_ => some k_ ≠ (v257 : Value).ownBlock) v265 t264) := ⟨h1_⟩
         have n2_ : Aside0 (w31.heap[gb251]? = some (.cells #[.int .i64 x252000_1, .int .i64 x252001_1, .int .i64 x252002_1] 25 (0, 0))) := ⟨h2_⟩
         have n3_ : Aside0 (w31.heap[gb259]? = some (.cells #[.int .i64 t253, .int .i64 t254, .int .i64 t255] 25 (0, 0))) := ⟨h3_⟩
         have n4_ : Aside0 (w31.heap[gb267]? = some (.cells #[.int .i64 0, .int .i64 0, .int .i64 0] 25 (0, 0))) := ⟨h4_⟩
         have n5_ : Aside0 (w.heap.size ≤ gb267) := ⟨h5_⟩
         have n6_ : Aside0 (w.heap.size ≤ gb267) := ⟨h6_⟩
         have n7_ : Aside0 (gb251 ≠ gb267) := ⟨h7_⟩
         have n8_ : Aside0 (gb267 ≠ gb251) := ⟨h8_⟩
         have n9_ : Aside0 (gb259 ≠ gb267) := ⟨h9_⟩
         have n10_ : Aside0 (gb267 ≠ gb259) := ⟨h10_⟩
         have n11_ : Aside0 (Below w.heap.size w w31) := ⟨h11_⟩
         clear HO258
         clear BK251
         clear BK259
         clear HB
         clear h0_ h1_ h2_ h3_ h4_ h5_ h6_ h7_ h8_ h9_ h10_ h11_
         have HO258 := n0_
         have HO266 := n1_
         have BK251 := n2_
         have BK259 := n3_
         have BK267 := n4_
         have GW267 := n5_
         have GE267 := n6_
         have NB251_267 := n7_
         have NB267_251 := n8_
         have NB259_267 := n9_
         have NB267_259 := n10_
         have HB := n11_
         clear n0_ n1_ n2_ n3_ n4_ n5_ n6_ n7_ n8_ n9_ n10_ n11_
         have hHeld : w31.cell? ⟨gb251, 0, none⟩ = some (.int .i64 x252000_1) ∧ w31.cell? ⟨gb251, 1, none⟩ = some (.int .i64 x252001_1) ∧ w31.cell? ⟨gb251, 2, none⟩ = some (.int .i64 x252002_1) ∧ w31.cell? (ad252.add (x8_1).toNat) = some (.int .u8 (rd l0 x8_1)) := hS_
         refine norm_ (a' := ?_) ?_ ?_
         rotate_left
         ·
          simp only [putAll, Act.put, List.setIfInBounds_toArray, List.set_cons_zero, List.set_cons_succ]
          rfl
         refine one_ (i := 10) (N := none) #[true, true, true, true, true, true, true, true, true, true, true, false] rfl rfl (one_of HT_.out (by kernel_rfl)) (by decide) (fun K hK => ?_)
         have hs32 : w31.cell? ⟨gb267, 0, none⟩ = some (.int .i64 0) := (blk_cell BK267.out 0).trans rfl
         have hfs32 := blk_frozen BK267.out 0
         have hns32_0 := NB251_267.out
         have hns32_1 := NB259_267.out
         have hms32_0 := NB267_251.out
         have hms32_1 := NB267_259.out
         have hs33 : w31.cell? ⟨gb267, 1, none⟩ = some (.int .i64 0) := (blk_cell BK267.out 1).trans rfl
         have hfs33 := blk_frozen BK267.out 1
         have hns33_0 := NB251_267.out
         have hns33_1 := NB259_267.out
         have hms33_0 := NB267_251.out
         have hms33_1 := NB267_259.out
         have hs34 : w31.cell? ⟨gb267, 2, none⟩ = some (.int .i64 0) := (blk_cell BK267.out 2).trans rfl
         have hfs34 := blk_frozen BK267.out 2
         have hns34_0 := NB251_267.out
         have hns34_1 := NB259_267.out
         have hms34_0 := NB267_251.out
         have hms34_1 := NB267_259.out
         refine skip_ (w1 := ?_) (by rfl) rfl ?_ ?_
         rotate_left
         ·
          go_simp
          rfl
         refine hK.out _ _ ⟨((cell_far (p := ⟨gb267, _, none⟩) NB251_267.out _).trans (((cell_far (p := ⟨gb267, _, none⟩) NB251_267.out _).trans (((cell_far (p := ⟨gb267, _, none⟩) NB251_267.out _).trans (hHeld.1)))))), ((cell_far (p := ⟨gb267, _, none⟩) NB251_267.out _).trans (((cell_far (p := ⟨gb267, _, none⟩) NB251_267.out _).trans (((cell_far (p := ⟨gb267, _, none⟩) NB251_267.out _).trans (hHeld.2.1)))))), ((cell_far (p := ⟨gb267, _, none⟩) NB251_267.out _).trans (((cell_far (p := ⟨gb267, _, none⟩) NB251_267.out _).trans (((cell_far (p := ⟨gb267, _, none⟩) NB251_267.out _).trans (hHeld.2.2.1)))))), ((cell_far (p := ⟨gb267, _, none⟩) (by first | exact Nat.ne_of_lt (Nat.lt_of_lt_of_le (by have := World.block_lt_of_cell? _ _ hw260_0; first | rwa [add_block] at this | exact this) GW267.out) | (rw [add_block]; exact Nat.ne_of_lt (Nat.lt_of_lt_of_le (by have := World.block_lt_of_cell? _ _ hw260_0; first | rwa [add_block] at this | exact this) GW267.out)) | (show (Addr.add _ _).block ≠ _; rw [add_block]; exact Nat.ne_of_lt (Nat.lt_of_lt_of_le (by have := World.block_lt_of_cell? _ _ hw260_0; first | rwa [add_block] at this | exact this) GW267.out)) | (dsimp only; exact Nat.ne_of_lt (Nat.lt_of_lt_of_le (by have := World.block_lt_of_cell? _ _ hw260_0; first | rwa [add_block] at this | exact this) GW267.out))) _).trans (((cell_far (p := ⟨gb267, _, none⟩) (by first | exact Nat.ne_of_lt (Nat.lt_of_lt_of_le (by have := World.block_lt_of_cell? _ _ hw260_0; first | rwa [add_block] at this | exact this) GW267.out) | (rw [add_block]; exact Nat.ne_of_lt (Nat.lt_of_lt_of_le (by have := World.block_lt_of_cell? _ _ hw260_0; first | rwa [add_block] at this | exact this) GW267.out)) | (show (Addr.add _ _).block ≠ _; rw [add_block]; exact Nat.ne_of_lt (Nat.lt_of_lt_of_le (by have := World.block_lt_of_cell? _ _ hw260_0; first | rwa [add_block] at this | exact this) GW267.out)) | (dsimp only; exact Nat.ne_of_lt (Nat.lt_of_lt_of_le (by have := World.block_lt_of_cell? _ _ hw260_0; first | rwa [add_block] at this | exact this) GW267.out))) _).trans (((cell_far (p := ⟨gb267, _, none⟩) (by first | exact Nat.ne_of_lt (Nat.lt_of_lt_of_le (by have := World.block_lt_of_cell? _ _ hw260_0; first | rwa [add_block] at this | exact this) GW267.out) | (rw [add_block]; exact Nat.ne_of_lt (Nat.lt_of_lt_of_le (by have := World.block_lt_of_cell? _ _ hw260_0; first | rwa [add_block] at this | exact this) GW267.out)) | (show (Addr.add _ _).block ≠ _; rw [add_block]; exact Nat.ne_of_lt (Nat.lt_of_lt_of_le (by have := World.block_lt_of_cell? _ _ hw260_0; first | rwa [add_block] at this | exact this) GW267.out)) | (dsimp only; exact Nat.ne_of_lt (Nat.lt_of_lt_of_le (by have := World.block_lt_of_cell? _ _ hw260_0; first | rwa [add_block] at this | exact this) GW267.out))) _).trans (hHeld.2.2.2))))))⟩ (fun hHeld => ?_)
         clear hK K
         refine pure_ (i := 11) (N := some 12) (v := ?_) (a' := ?_) #[true, true, true, true, true, true, true, true, true, true, true, true] rfl rfl (any_of HT_.out (by kernel_rfl)) (fun _ _ _ h => h) (Or.inl ⟨by rfl, ?_⟩) ?_ ?_
         rotate_left
         ·
          intro w'
          go_simp
          with_reducible rfl
         rotate_left
         ·
          simp only [Act.put, List.setIfInBounds_toArray, List.set_cons_zero, List.set_cons_succ, i64_w, i32_w]
          rfl
         refine done_ (done_of HT_.out (by kernel_rfl)) ?_
         try go_wp2
         have n0_ : Aside0 (Kd.R (Kd.int .i32) 21 (((w31.setCell ⟨gb267, 0, none⟩ (.int .i64 t261)).setCell ⟨gb267, 1, none⟩ (.int .i64 t262)).setCell ⟨gb267, 2, none⟩ (.int .i64 t263)) w.heap.size (fun k_ => some k_ ≠ (v265 : Value).ownBlock) v257 t256) := ⟨by (with_reducible repeat (first | apply Kd.R_alloc | apply Kd.R_drewN | apply Kd.R_drew)); exact Kd.R_mono (Kd.R_far (p := ⟨gb267, 2, none⟩) (Kd.R_far (p := ⟨gb267, 1, none⟩) (Kd.R_far (p := ⟨gb267, 0, none⟩) (Kd.R_types HO258.out BK267.out (by decide)) (fun _ hk => hk.2) (.int .i64 t261)) (fun _ hk => hk.2) (.int .i64 t262)) (fun _ hk => hk.2) (.int .i64 t263)) (fun _ hk => hk.1)⟩
         have n1_ : Aside0 (Kd.R (Kd.int .i32) 21 (((w31.setCell ⟨gb267, 0, none⟩ (.int .i64 t261)).setCell ⟨gb267, 1, none⟩ (.int .i64 t262)).setCell ⟨gb267, 2, none⟩ (.int .i64 t263)) w.heap.size (fun k_ => some k_ ≠ (v257 : Value).ownBlock) v265 t264) := ⟨by (with_reducible repeat (first | apply Kd.R_alloc | apply Kd.R_drewN | apply Kd.R_drew)); exact Kd.R_mono (Kd.R_far (p := ⟨gb267, 2, none⟩) (Kd.R_far (p := ⟨gb267, 1, none⟩) (Kd.R_far (p := ⟨gb267, 0, none⟩) (Kd.R_types HO266.out BK267.out (by decide)) (fun _ hk => hk.2) (.int .i64 t261)) (fun _ hk => hk.2) (.int .i64 t262)) (fun _ hk => hk.2) (.int .i64 t263)) (fun _ hk => hk.1)⟩
         have n2_ : Aside0 ((((w31.setCell ⟨gb267, 0, none⟩ (.int .i64 t261)).setCell ⟨gb267, 1, none⟩ (.int .i64 t262)).setCell ⟨gb267, 2, none⟩ (.int .i64 t263)).heap[gb251]? = some (.cells #[.int .i64 x252000_1, .int .i64 x252001_1, .int .i64 x252002_1] 25 (0, 0))) := ⟨by (with_reducible repeat (first | refine blk_drewN ?_ _ | refine blk_drew ?_ | refine blk_alloc ?_ _)); refine blk_far ?_ NB251_267.out _; (with_reducible repeat (first | refine blk_drewN ?_ _ | refine blk_drew ?_ | refine blk_alloc ?_ _)); refine blk_far ?_ NB251_267.out _; (with_reducible repeat (first | refine blk_drewN ?_ _ | refine blk_drew ?_ | refine blk_alloc ?_ _)); refine blk_far ?_ NB251_267.out _; (with_reducible repeat (first | refine blk_drewN ?_ _ | refine blk_drew ?_ | refine blk_alloc ?_ _)); exact BK251.out⟩
         have n3_ : Aside0 ((((w31.setCell ⟨gb267, 0, none⟩ (.int .i64 t261)).setCell ⟨gb267, 1, none⟩ (.int .i64 t262)).setCell ⟨gb267, 2, none⟩ (.int .i64 t263)).heap[gb259]? = some (.cells #[.int .i64 t253, .int .i64 t254, .int .i64 t255] 25 (0, 0))) := ⟨by (with_reducible repeat (first | refine blk_drewN ?_ _ | refine blk_drew ?_ | refine blk_alloc ?_ _)); refine blk_far ?_ NB259_267.out _; (with_reducible repeat (first | refine blk_drewN ?_ _ | refine blk_drew ?_ | refine blk_alloc ?_ _)); refine blk_far ?_ NB259_267.out _; (with_reducible repeat (first | refine blk_drewN ?_ _ | refine blk_drew ?_ | refine blk_alloc ?_ _)); refine blk_far ?_ NB259_267.out _; (with_reducible repeat (first | refine blk_drewN ?_ _ | refine blk_drew ?_ | refine blk_alloc ?_ _)); exact BK259.out⟩
         have n4_ : Aside0 ((((w31.setCell ⟨gb267, 0, none⟩ (.int .i64 t261)).setCell ⟨gb267, 1, none⟩ (.int .i64 t262)).setCell ⟨gb267, 2, none⟩ (.int .i64 t263)).heap[gb267]? = some (.cells #[.int .i64 t261, .int .i64 t262, .int .i64 t263] 25 (0, 0))) := ⟨by (with_reducible repeat (first | refine blk_drewN ?_ _ | refine blk_drew ?_ | refine blk_alloc ?_ _)); refine blk_put (cs := #[.int .i64 t261, .int .i64 t262, .int .i64 0]) ?_ 2 _ rfl; (with_reducible repeat (first | refine blk_drewN ?_ _ | refine blk_drew ?_ | refine blk_alloc ?_ _)); refine blk_put (cs := #[.int .i64 t261, .int .i64 0, .int .i64 0]) ?_ 1 _ rfl; (with_reducible repeat (first | refine blk_drewN ?_ _ | refine blk_drew ?_ | refine blk_alloc ?_ _)); refine blk_put (cs := #[.int .i64 0, .int .i64 0, .int .i64 0]) ?_ 0 _ rfl; (with_reducible repeat (first | refine blk_drewN ?_ _ | refine blk_drew ?_ | refine blk_alloc ?_ _)); exact BK267.out⟩
         have n5_ : Aside0 (Below w.heap.size w (((w31.setCell ⟨gb267, 0, none⟩ (.int .i64 t261)).setCell ⟨gb267, 1, none⟩ (.int .i64 t262)).setCell ⟨gb267, 2, none⟩ (.int .i64 t263))) := ⟨by repeat (first | (with_reducible first | exact HB.out | apply below_alloc | apply pw_below_drewN | apply below_drew1 | refine below_set ?_ GE251.out | refine below_set ?_ GE259.out | refine below_set ?_ GE267.out) | exact HB.out)⟩
         (try clear HO258)
         (try clear HO266)
         (try clear BK251)
         (try clear BK259)
         (try clear BK267)
         (try clear HB)
         generalize (((w31.setCell ⟨gb267, 0, none⟩ (.int .i64 t261)).setCell ⟨gb267, 1, none⟩ (.int .i64 t262)).setCell ⟨gb267, 2, none⟩ (.int .i64 t263)) = w35 at n0_ n1_ n2_ n3_ n4_ n5_ ⊢
         have HO258 := n0_
         have HO266 := n1_
         have BK251 := n2_
         have BK259 := n3_
         have BK267 := n4_
         have HB := n5_
         clear n0_ n1_ n2_ n3_ n4_ n5_
         have n0_ := Aside0.mk (Kd.R_drew HO258.out)
         have n1_ := Aside0.mk (Kd.R_drew HO266.out)
         have n2_ := Aside0.mk (blk_drew BK251.out)
         have n3_ := Aside0.mk (blk_drew BK259.out)
         have n4_ := Aside0.mk (blk_drew BK267.out)
         have n5_ := Aside0.mk (below_drew1 HB.out)
         clear HO258
         clear HO266
         clear BK251
         clear BK259
         clear BK267
         clear HB
         have HO258 := n0_
         have HO266 := n1_
         have BK251 := n2_
         have BK259 := n3_
         have BK267 := n4_
         have HB := n5_
         clear n0_ n1_ n2_ n3_ n4_ n5_
         obtain ⟨Ao37, co37, eo37⟩ := Kd.R_slice HO258.out
         (first | subst eo37 | (injection eo37 with f1_ f2_ f3_; have f4_ := f1_.symm; have f5_ := f3_.symm; clear f1_ f2_ f3_; subst f4_; subst f5_))
         obtain ⟨Ao38, co38, eo38⟩ := Kd.R_slice HO266.out
         (first | subst eo38 | (injection eo38 with f1_ f2_ f3_; have f4_ := f1_.symm; have f5_ := f3_.symm; clear f1_ f2_ f3_; subst f4_; subst f5_))
         refine start_ (n := 17) (S := fun w' => w'.cell? ⟨gb259, 0, none⟩ = some (.int .i64 t253) ∧ w'.cell? ⟨gb259, 1, none⟩ = some (.int .i64 t254) ∧ w'.cell? ⟨gb259, 2, none⟩ = some (.int .i64 t255) ∧ w'.cell? ⟨gb267, 0, none⟩ = some (.int .i64 t261) ∧ w'.cell? ⟨gb267, 1, none⟩ = some (.int .i64 t262) ∧ w'.cell? ⟨gb267, 2, none⟩ = some (.int .i64 t263)) (ds := []) #[false, false, false, false, false, false, false, false, false, false, false, false, false, false, false, false, false] (by kernel_rfl) rfl rfl ⟨(blk_cell BK259.out 0).trans rfl, (blk_cell BK259.out 1).trans rfl, (blk_cell BK259.out 2).trans rfl, (blk_cell BK267.out 0).trans rfl, (blk_cell BK267.out 1).trans rfl, (blk_cell BK267.out 2).trans rfl⟩ (fun hHeld => ?_); refine with_tabW polyptychlaw1_UtfdTells.tab9 polyptychlaw1_UtfdTells.bits9 (fun HT_ HW_ => ?_)
         generalize w35.drew = w36 at HO258 HO266 BK251 BK259 BK267 HB hHeld ⊢
         refine take_ (i := 0) (N := some 46) (v := ?_) (a' := ?_) #[true, false, false, false, false, false, false, false, false, false, false, false, false, false, false, false, false] rfl rfl (take_ofW HT_.out HW_.out (by kernel_rfl)) (fun _ _ _ h => h) (Or.inl ⟨by rfl, ?_⟩) hHeld ?_ ?_
         rotate_left
         ·
          rintro w' ⟨s0, s1, s2, s3, s4, s5⟩
          go_simp
          with_reducible rfl
         rotate_left
         ·
          simp only [Act.put, List.setIfInBounds_toArray, List.set_cons_zero, List.set_cons_succ, i64_w, i32_w]
          rfl
         refine take_ (i := 1) (N := some 47) (v := ?_) (a' := ?_) #[true, true, false, false, false, false, false, false, false, false, false, false, false, false, false, false, false] rfl rfl (take_ofW HT_.out HW_.out (by kernel_rfl)) (fun _ _ _ h => h) (Or.inl ⟨by rfl, ?_⟩) hHeld ?_ ?_
         rotate_left
         ·
          rintro w' ⟨s0, s1, s2, s3, s4, s5⟩
          go_simp
          with_reducible rfl
         rotate_left
         ·
          simp only [Act.put, List.setIfInBounds_toArray, List.set_cons_zero, List.set_cons_succ, i64_w, i32_w]
          rfl
         refine pure_ (i := 2) (N := some 48) (v := ?_) (a' := ?_) #[true, true, true, false, false, false, false, false, false, false, false, false, false, false, false, false, false] rfl rfl (any_of HT_.out (by kernel_rfl)) (fun _ _ _ h => h) (Or.inl ⟨by rfl, ?_⟩) ?_ ?_
         rotate_left
         ·
          intro w'
          go_simp
          with_reducible rfl
         rotate_left
         ·
          simp only [Act.put, List.setIfInBounds_toArray, List.set_cons_zero, List.set_cons_succ, i64_w, i32_w]
          rfl
         refine pure_ (i := 3) (N := some 49) (v := ?_) (a' := ?_) #[true, true, true, true, false, false, false, false, false, false, false, false, false, false, false, false, false] rfl rfl (any_of HT_.out (by kernel_rfl)) (fun _ _ _ h => h) (Or.inl ⟨by rfl, ?_⟩) ?_ ?_
         rotate_left
         ·
          intro w'
          go_simp
          with_reducible rfl
         rotate_left
         ·
          simp only [Act.put, List.setIfInBounds_toArray, List.set_cons_zero, List.set_cons_succ, i64_w, i32_w]
          rfl
         refine pure_ (i := 4) (N := some 50) (v := ?_) (a' := ?_) #[true, true, true, true, true, false, false, false, false, false, false, false, false, false, false, false, false] rfl rfl (any_of HT_.out (by kernel_rfl)) (fun _ _ _ h => h) (Or.inl ⟨by rfl, ?_⟩) ?_ ?_
         rotate_left
         ·
          intro w'
          go_simp
          with_reducible rfl
         rotate_left
         ·
          simp only [Act.put, List.setIfInBounds_toArray, List.set_cons_zero, List.set_cons_succ, i64_w, i32_w]
          rfl
         refine pure_ (i := 5) (N := some 51) (v := ?_) (a' := ?_) #[true, true, true, true, true, true, false, false, false, false, false, false, false, false, false, false, false] rfl rfl (any_of HT_.out (by kernel_rfl)) (fun _ _ _ h => h) (Or.inl ⟨by rfl, ?_⟩) ?_ ?_
         rotate_left
         ·
          intro w'
          go_simp
          with_reducible rfl
         rotate_left
         ·
          simp only [Act.put, List.setIfInBounds_toArray, List.set_cons_zero, List.set_cons_succ, i64_w, i32_w]
          rfl
         refine one_ (i := 6) (N := some 52) #[true, true, true, true, true, true, true, false, false, false, false, false, false, false, false, false, false] rfl rfl (one_of HT_.out (by kernel_rfl)) (by decide) (fun K hK => ?_)
         refine goes_ Try.func10 (by kernel_rfl) rfl #[.slice Ao37 t256.length co37, .slice Ao38 t264.length co38] (by rfl) rfl rfl (by (try simp only [List.map_toArray, List.map_cons, List.map_nil]); first | done | rfl | (simp only [List.length_drop, List.length_take]; rfl)) ?_
         with_reducible refine (polyptychref1_SameRunes.calls _ _ t256 _ _ t264 true _ ?side1 ?side2 ?side3 ?side4 A14.out).mono ?_
         (case side1 => repeat (first | exact (Kd.R_reads' HO258.out).2.2 | (with_reducible refine Kd.C_alloc ?_ _) | (with_reducible refine Kd.C_drewN ?_ _) | (with_reducible refine Kd.C_drew ?_)))
         (case side2 => exact (Kd.R_reads' HO258.out).2.1)
         (case side3 => repeat (first | exact (Kd.R_reads' HO266.out).2.2 | (with_reducible refine Kd.C_alloc ?_ _) | (with_reducible refine Kd.C_drewN ?_ _) | (with_reducible refine Kd.C_drew ?_)))
         (case side4 => exact (Kd.R_reads' HO266.out).2.1)
         rintro e w' ⟨rfl, ⟨nd, rfl⟩⟩
         refine ⟨_, rfl, ?_⟩
         refine hK.out _ _ ⟨(blk_cell BK259.out 0).trans rfl, (blk_cell BK259.out 1).trans rfl, (blk_cell BK259.out 2).trans rfl, (blk_cell BK267.out 0).trans rfl, (blk_cell BK267.out 1).trans rfl, (blk_cell BK267.out 2).trans rfl⟩ (fun hHeld => ?_)
         clear hK K
         refine norm_ (a' := ?_) ?_ ?_
         rotate_left
         ·
          show Act.put _ (some 52) _ = _
          simp only [Act.put, List.setIfInBounds_toArray, List.set_cons_zero, List.set_cons_succ, i64_w, i32_w]
          rfl
         refine pure_ (i := 7) (N := some 53) (v := ?_) (a' := ?_) #[true, true, true, true, true, true, true, true, false, false, false, false, false, false, false, false, false] rfl rfl (any_of HT_.out (by kernel_rfl)) (fun _ _ _ h => h) (Or.inl ⟨by rfl, ?_⟩) ?_ ?_
         rotate_left
         ·
          intro w'
          go_simp
          with_reducible rfl
         rotate_left
         ·
          simp only [Act.put, List.setIfInBounds_toArray, List.set_cons_zero, List.set_cons_succ, i64_w, i32_w]
          rfl
         refine pure_ (i := 8) (N := some 54) (v := ?_) (a' := ?_) #[true, true, true, true, true, true, true, true, true, false, false, false, false, false, false, false, false] rfl rfl (any_of HT_.out (by kernel_rfl)) (fun _ _ _ h => h) (Or.inl ⟨by rfl, ?_⟩) ?_ ?_
         rotate_left
         ·
          intro w'
          go_simp
          with_reducible rfl
         rotate_left
         ·
          simp only [Act.put, List.setIfInBounds_toArray, List.set_cons_zero, List.set_cons_succ, i64_w, i32_w]
          rfl
         refine pure_ (i := 9) (N := some 55) (v := ?_) (a' := ?_) #[true, true, true, true, true, true, true, true, true, true, false, false, false, false, false, false, false] rfl rfl (any_of HT_.out (by kernel_rfl)) (fun _ _ _ h => h) (Or.inl ⟨by rfl, ?_⟩) ?_ ?_
         rotate_left
         ·
          intro w'
          go_simp
          with_reducible rfl
         rotate_left
         ·
          simp only [Act.put, List.setIfInBounds_toArray, List.set_cons_zero, List.set_cons_succ, i64_w, i32_w]
          rfl
         refine take_ (i := 10) (N := some 56) (v := ?_) (a' := ?_) #[true, true, true, true, true, true, true, true, true, true, true, false, false, false, false, false, false] rfl rfl (take_ofW HT_.out HW_.out (by kernel_rfl)) (fun _ _ _ h => h) (Or.inl ⟨by rfl, ?_⟩) hHeld ?_ ?_
         rotate_left
         ·
          rintro w' ⟨s0, s1, s2, s3, s4, s5⟩
          go_simp
          with_reducible rfl
         rotate_left
         ·
          simp only [Act.put, List.setIfInBounds_toArray, List.set_cons_zero, List.set_cons_succ, i64_w, i32_w]
          rfl
         refine take_ (i := 12) (N := some 58) (v := ?_) (a' := ?_) #[true, true, true, true, true, true, true, true, true, true, true, false, true, false, false, false, false] rfl rfl (take_ofW HT_.out HW_.out (by kernel_rfl)) (fun _ _ _ h => h) (Or.inl ⟨by rfl, ?_⟩) hHeld ?_ ?_
         rotate_left
         ·
          rintro w' ⟨s0, s1, s2, s3, s4, s5⟩
          go_simp
          with_reducible rfl
         rotate_left
         ·
          simp only [Act.put, List.setIfInBounds_toArray, List.set_cons_zero, List.set_cons_succ, i64_w, i32_w]
          rfl
         refine one_ (i := 11) (N := some 57) #[true, true, true, true, true, true, true, true, true, true, true, true, true, false, false, false, false] rfl rfl (one_of HT_.out (by kernel_rfl)) (by decide) (fun K hK => ?_)
         refine goes_ Try.func8 (by kernel_rfl) rfl #[.agg #[.int .i64 t253, .int .i64 t254, .int .i64 t255]] (by rfl) rfl rfl (by (try simp only [List.map_toArray, List.map_cons, List.map_nil]); first | done | rfl | (simp only [List.length_drop, List.length_take]; rfl)) ?_
         with_reducible refine (utfd_End.calls t253 t254 t255 t269 _ A16.out).mono ?_
         rintro e w39 ⟨v270, rfl, ho0, hb⟩
         refine ⟨_, rfl, ?_⟩
         have n0_ := Aside0.mk (Kd.R_elder' (by (with_reducible repeat (first | apply Kd.R_alloc | apply Kd.R_drewN | apply Kd.R_drew)); exact HO258.out) (Kd.R_base ho0) hb)
         have n1_ := Aside0.mk (Kd.R_elder' (by (with_reducible repeat (first | apply Kd.R_alloc | apply Kd.R_drewN | apply Kd.R_drew)); exact HO266.out) (Kd.R_base ho0) hb)
         have n2_ := Aside0.mk (Kd.R_lower (Kd.R_new' (Kd.R_new' ho0 (Kd.R_lt (by (with_reducible repeat (first | apply Kd.R_alloc | apply Kd.R_drewN | apply Kd.R_drew)); exact HO258.out))) (Kd.R_lt (by (with_reducible repeat (first | apply Kd.R_alloc | apply Kd.R_drewN | apply Kd.R_drew)); exact HO266.out))) (below_size (by repeat (first | (with_reducible first | exact HB.out | apply below_alloc | apply pw_below_drewN | apply below_drew1 | refine below_set ?_ GE251.out | refine below_set ?_ GE259.out | refine below_set ?_ GE267.out) | exact HB.out))))
         have n3_ := Aside0.mk (blk_below (g := gb251) (o := .cells #[.int .i64 x252000_1, .int .i64 x252001_1, .int .i64 x252002_1] 25 (0, 0)) (by (with_reducible repeat (first | refine blk_drewN ?_ _ | refine blk_drew ?_ | refine blk_alloc ?_ _)); exact BK251.out) hb)
         have n4_ := Aside0.mk (blk_below (g := gb259) (o := .cells #[.int .i64 t253, .int .i64 t254, .int .i64 t255] 25 (0, 0)) (by (with_reducible repeat (first | refine blk_drewN ?_ _ | refine blk_drew ?_ | refine blk_alloc ?_ _)); exact BK259.out) hb)
         have n5_ := Aside0.mk (blk_below (g := gb267) (o := .cells #[.int .i64 t261, .int .i64 t262, .int .i64 t263] 25 (0, 0)) (by (with_reducible repeat (first | refine blk_drewN ?_ _ | refine blk_drew ?_ | refine blk_alloc ?_ _)); exact BK267.out) hb)
         have n6_ := Aside0.mk (below_step (by repeat (first | (with_reducible first | exact HB.out | apply below_alloc | apply pw_below_drewN | apply below_drew1 | refine below_set ?_ GE251.out | refine below_set ?_ GE259.out | refine below_set ?_ GE267.out) | exact HB.out)) hb)
         clear HO258
         clear HO266
         clear BK251
         clear BK259
         clear BK267
         clear HB
         have HO258 := n0_
         have HO266 := n1_
         have HO271 := n2_
         have BK251 := n3_
         have BK259 := n4_
         have BK267 := n5_
         have HB := n6_
         clear n0_ n1_ n2_ n3_ n4_ n5_ n6_
         (try clear hb)
         (try clear hb2)
         (try clear hk)
         (try clear hi)
         (try clear ho0)
         refine hK.out _ _ ⟨(blk_cell BK259.out 0).trans rfl, (blk_cell BK259.out 1).trans rfl, (blk_cell BK259.out 2).trans rfl, (blk_cell BK267.out 0).trans rfl, (blk_cell BK267.out 1).trans rfl, (blk_cell BK267.out 2).trans rfl⟩ (fun hHeld => ?_)
         clear hK K
         refine norm_ (a' := ?_) ?_ ?_
         rotate_left
         ·
          show Act.put _ (some 57) _ = _
          simp only [Act.put, List.setIfInBounds_toArray, List.set_cons_zero, List.set_cons_succ, i64_w, i32_w]
          rfl
         refine one_ (i := 13) (N := some 59) #[true, true, true, true, true, true, true, true, true, true, true, true, true, true, false, false, false] rfl rfl (one_of HT_.out (by kernel_rfl)) (by decide) (fun K hK => ?_)
         refine goes_ Try.func12 (by kernel_rfl) rfl #[.agg #[.int .i64 t261, .int .i64 t262, .int .i64 t263]] (by rfl) rfl rfl (by (try simp only [List.map_toArray, List.map_cons, List.map_nil]); first | done | rfl | (simp only [List.length_drop, List.length_take]; rfl)) ?_
         with_reducible refine (polyptychref1_End.calls t261 t262 t263 t272 _ A17.out).mono ?_
         rintro e w40 ⟨v273, rfl, ho0, hb⟩
         refine ⟨_, rfl, ?_⟩
         have n0_ := Aside0.mk (Kd.R_elder' (by (with_reducible repeat (first | apply Kd.R_alloc | apply Kd.R_drewN | apply Kd.R_drew)); exact HO258.out) (Kd.R_base ho0) hb)
         have n1_ := Aside0.mk (Kd.R_elder' (by (with_reducible repeat (first | apply Kd.R_alloc | apply Kd.R_drewN | apply Kd.R_drew)); exact HO266.out) (Kd.R_base ho0) hb)
         have n2_ := Aside0.mk (Kd.R_elder' (by (with_reducible repeat (first | apply Kd.R_alloc | apply Kd.R_drewN | apply Kd.R_drew)); exact HO271.out) (Kd.R_base ho0) hb)
         have n3_ := Aside0.mk (Kd.R_lower (Kd.R_new' (Kd.R_new' (Kd.R_new' ho0 (Kd.R_lt (by (with_reducible repeat (first | apply Kd.R_alloc | apply Kd.R_drewN | apply Kd.R_drew)); exact HO258.out))) (Kd.R_lt (by (with_reducible repeat (first | apply Kd.R_alloc | apply Kd.R_drewN | apply Kd.R_drew)); exact HO266.out))) (Kd.R_lt (by (with_reducible repeat (first | apply Kd.R_alloc | apply Kd.R_drewN | apply Kd.R_drew)); exact HO271.out))) (below_size (by repeat (first | (with_reducible first | exact HB.out | apply below_alloc | apply pw_below_drewN | apply below_drew1 | refine below_set ?_ GE251.out | refine below_set ?_ GE259.out | refine below_set ?_ GE267.out) | exact HB.out))))
         have n4_ := Aside0.mk (blk_below (g := gb251) (o := .cells #[.int .i64 x252000_1, .int .i64 x252001_1, .int .i64 x252002_1] 25 (0, 0)) (by (with_reducible repeat (first | refine blk_drewN ?_ _ | refine blk_drew ?_ | refine blk_alloc ?_ _)); exact BK251.out) hb)
         have n5_ := Aside0.mk (blk_below (g := gb259) (o := .cells #[.int .i64 t253, .int .i64 t254, .int .i64 t255] 25 (0, 0)) (by (with_reducible repeat (first | refine blk_drewN ?_ _ | refine blk_drew ?_ | refine blk_alloc ?_ _)); exact BK259.out) hb)
         have n6_ := Aside0.mk (blk_below (g := gb267) (o := .cells #[.int .i64 t261, .int .i64 t262, .int .i64 t263] 25 (0, 0)) (by (with_reducible repeat (first | refine blk_drewN ?_ _ | refine blk_drew ?_ | refine blk_alloc ?_ _)); exact BK267.out) hb)
         have n7_ := Aside0.mk (below_step (by repeat (first | (with_reducible first | exact HB.out | apply below_alloc | apply pw_below_drewN | apply below_drew1 | refine below_set ?_ GE251.out | refine below_set ?_ GE259.out | refine below_set ?_ GE267.out) | exact HB.out)) hb)
         clear HO258
         clear HO266
         clear HO271
         clear BK251
         clear BK259
         clear BK267
         clear HB
         have HO258 := n0_
         have HO266 := n1_
         have HO271 := n2_
         have HO274 := n3_
         have BK251 := n4_
         have BK259 := n5_
         have BK267 := n6_
         have HB := n7_
         clear n0_ n1_ n2_ n3_ n4_ n5_ n6_ n7_
         (try clear hb)
         (try clear hb2)
         (try clear hk)
         (try clear hi)
         (try clear ho0)
         obtain ⟨Ao41, co41, eo41⟩ := Kd.R_slice HO271.out
         (first | subst eo41 | (injection eo41 with f1_ f2_ f3_; have f4_ := f1_.symm; have f5_ := f3_.symm; clear f1_ f2_ f3_; subst f4_; subst f5_))
         obtain ⟨Ao42, co42, eo42⟩ := Kd.R_slice HO274.out
         (first | subst eo42 | (injection eo42 with f1_ f2_ f3_; have f4_ := f1_.symm; have f5_ := f3_.symm; clear f1_ f2_ f3_; subst f4_; subst f5_))
         refine hK.out _ _ ⟨(blk_cell BK259.out 0).trans rfl, (blk_cell BK259.out 1).trans rfl, (blk_cell BK259.out 2).trans rfl, (blk_cell BK267.out 0).trans rfl, (blk_cell BK267.out 1).trans rfl, (blk_cell BK267.out 2).trans rfl⟩ (fun hHeld => ?_)
         clear hK K
         refine norm_ (a' := ?_) ?_ ?_
         rotate_left
         ·
          show Act.put _ (some 59) _ = _
          simp only [Act.put, List.setIfInBounds_toArray, List.set_cons_zero, List.set_cons_succ, i64_w, i32_w]
          rfl
         refine one_ (i := 14) (N := some 60) #[true, true, true, true, true, true, true, true, true, true, true, true, true, true, true, false, false] rfl rfl (one_of HT_.out (by kernel_rfl)) (by decide) (fun K hK => ?_)
         refine goes_ Try.func10 (by kernel_rfl) rfl #[.slice Ao41 t269.length co41, .slice Ao42 t272.length co42] (by rfl) rfl rfl (by (try simp only [List.map_toArray, List.map_cons, List.map_nil]); first | done | rfl | (simp only [List.length_drop, List.length_take]; rfl)) ?_
         with_reducible refine (polyptychref1_SameRunes.calls _ _ t269 _ _ t272 true _ ?side1 ?side2 ?side3 ?side4 A18.out).mono ?_
         (case side1 => repeat (first | exact (Kd.R_reads' HO271.out).2.2 | (with_reducible refine Kd.C_alloc ?_ _) | (with_reducible refine Kd.C_drewN ?_ _) | (with_reducible refine Kd.C_drew ?_)))
         (case side2 => exact (Kd.R_reads' HO271.out).2.1)
         (case side3 => repeat (first | exact (Kd.R_reads' HO274.out).2.2 | (with_reducible refine Kd.C_alloc ?_ _) | (with_reducible refine Kd.C_drewN ?_ _) | (with_reducible refine Kd.C_drew ?_)))
         (case side4 => exact (Kd.R_reads' HO274.out).2.1)
         rintro e w' ⟨rfl, ⟨nd, rfl⟩⟩
         refine ⟨_, rfl, ?_⟩
         refine hK.out _ _ ⟨(blk_cell BK259.out 0).trans rfl, (blk_cell BK259.out 1).trans rfl, (blk_cell BK259.out 2).trans rfl, (blk_cell BK267.out 0).trans rfl, (blk_cell BK267.out 1).trans rfl, (blk_cell BK267.out 2).trans rfl⟩ (fun hHeld => ?_)
         clear hK K
         refine norm_ (a' := ?_) ?_ ?_
         rotate_left
         ·
          show Act.put _ (some 60) _ = _
          simp only [Act.put, List.setIfInBounds_toArray, List.set_cons_zero, List.set_cons_succ, i64_w, i32_w]
          rfl
         refine pure_ (i := 15) (N := some 61) (v := ?_) (a' := ?_) #[true, true, true, true, true, true, true, true, true, true, true, true, true, true, true, true, false] rfl rfl (any_of HT_.out (by kernel_rfl)) (fun _ _ _ h => h) (Or.inl ⟨by rfl, ?_⟩) ?_ ?_
         rotate_left
         ·
          intro w'
          go_simp
          with_reducible rfl
         rotate_left
         ·
          simp only [Act.put, List.setIfInBounds_toArray, List.set_cons_zero, List.set_cons_succ, i64_w, i32_w]
          rfl
         refine pure_ (i := 16) (N := some 62) (v := ?_) (a' := ?_) #[true, true, true, true, true, true, true, true, true, true, true, true, true, true, true, true, true] rfl rfl (any_of HT_.out (by kernel_rfl)) (fun _ _ _ h => h) (Or.inl ⟨by rfl, ?_⟩) ?_ ?_
         rotate_left
         ·
          intro w'
          go_simp
          with_reducible rfl
         rotate_left
         ·
          simp only [Act.put, List.setIfInBounds_toArray, List.set_cons_zero, List.set_cons_succ, i64_w, i32_w]
          rfl
         refine done_ (done_of HT_.out (by kernel_rfl)) ?_
         have hnb43 := NB259_251.out
         have hnc43 := NB251_259.out
         have hnb44 := NB259_267.out
         have hnc44 := NB267_259.out
         have hcz45_0 : w40.cell? ⟨gb259, 0, none⟩ = some (.int .i64 t253) := (blk_cell BK259.out 0).trans rfl
         have hcz45_1 : w40.cell? ⟨gb259, 1, none⟩ = some (.int .i64 t254) := (blk_cell BK259.out 1).trans rfl
         have hcz45_2 : w40.cell? ⟨gb259, 2, none⟩ = some (.int .i64 t255) := (blk_cell BK259.out 2).trans rfl
         have hfz45_0 := blk_frozen BK259.out 0
         have hfz45_1 := blk_frozen BK259.out 1
         have hfz45_2 := blk_frozen BK259.out 2
         have hnb46 := NB251_267.out
         have hnc46 := NB267_251.out
         have hcz47_0 : w40.cell? ⟨gb251, 0, none⟩ = some (.int .i64 x252000_1) := (blk_cell BK251.out 0).trans rfl
         have hcz47_1 : w40.cell? ⟨gb251, 1, none⟩ = some (.int .i64 x252001_1) := (blk_cell BK251.out 1).trans rfl
         have hcz47_2 : w40.cell? ⟨gb251, 2, none⟩ = some (.int .i64 x252002_1) := (blk_cell BK251.out 2).trans rfl
         have hfz47_0 := blk_frozen BK251.out 0
         have hfz47_1 := blk_frozen BK251.out 1
         have hfz47_2 := blk_frozen BK251.out 2
         try go_wp2
         go_roundg k1
         case measure => have := HK1.out; omega
         case rel => exact ⟨(wrap64 (x8_1 + 1)), (t253), (t254), (t255), (by first | rfl | (simp; done) | (simp [*]; done)), H', ⟨by have := HK1.out; omega⟩, ⟨by (with_reducible repeat (first | refine blk_drewN ?_ _ | refine blk_drew ?_ | refine blk_alloc ?_ _)); refine blk_put (cs := #[.int .i64 t253, .int .i64 t254, .int .i64 x252002_1]) ?_ 2 _ rfl; (with_reducible repeat (first | refine blk_drewN ?_ _ | refine blk_drew ?_ | refine blk_alloc ?_ _)); refine blk_put (cs := #[.int .i64 t253, .int .i64 x252001_1, .int .i64 x252002_1]) ?_ 1 _ rfl; (with_reducible repeat (first | refine blk_drewN ?_ _ | refine blk_drew ?_ | refine blk_alloc ?_ _)); refine blk_put (cs := #[.int .i64 x252000_1, .int .i64 x252001_1, .int .i64 x252002_1]) ?_ 0 _ rfl; (with_reducible repeat (first | refine blk_drewN ?_ _ | refine blk_drew ?_ | refine blk_alloc ?_ _)); exact BK251.out⟩, ⟨by repeat (first | (with_reducible first | exact HB.out | apply below_alloc | apply pw_below_drewN | apply below_drew1 | refine below_set ?_ GE251.out | refine below_set ?_ GE259.out | refine below_set ?_ GE267.out) | exact HB.out)⟩⟩
        ·
         replace c19 := Bool.eq_false_iff.mpr c19
         subst c19
         have H1 : (some false) = some r := by rw [if_neg (show ¬ (false = true) by decide)] at H; exact H
         clear H
         have H := H1
         clear H1
         exact absurd ((Option.some.inj H).trans hT_.out) (by decide)
       ·
        replace c15 := Bool.eq_false_iff.mpr c15
        subst c15
        have H1 : (some false) = some r := by rw [if_neg (show ¬ (false = true) by decide)] at H; exact H
        clear H
        have H := H1
        clear H1
        exact absurd ((Option.some.inj H).trans hT_.out) (by decide)
     ·
      rw [if_neg c10] at H
      exact absurd H (by simp)
    ·
     rw [if_neg c9] at H
     have c9b0 : decide (x8_1 < (l0.length : Int)) = false := decide_eq_false c9
     clear c9
     replace H := Option.bind_eq_some_iff.mp H
     obtain ⟨⟨t276, t277, t278, t279⟩, A480, H⟩ := H
     (try dsimp only at H)
     have A48 := Aside0.mk A480
     clear A480
     replace H := Option.bind_eq_some_iff.mp H
     obtain ⟨⟨t283, t284, t285, t286⟩, A490, H⟩ := H
     (try dsimp only at H)
     have A49 := Aside0.mk A490
     clear A490
     by_cases c50 : (t276 == t283 && (t277 == t284 && (t278 == t285))) = true
     ·
      rw [if_pos c50] at H
      have c50b0 : (t276 == t283 && (t277 == t284 && (t278 == t285))) = true := c50
      (try (have c50b1 : decide (t276 = t283 && (t277 == t284 && (t278 == t285))) = true := by simpa using c50))
      (try (have c50b2 : (t276 == t283 && (t277 == t284 && (t278 == t285))) = true := by simpa using c50))
      clear c50
      replace H := Option.bind_eq_some_iff.mp H
      obtain ⟨t290, A510, H⟩ := H
      (try dsimp only at H)
      have A51 := Aside0.mk A510
      clear A510
      by_cases c52 : t290 = true
      ·
       subst c52
       have H1 : ((utfd_Put.f k1 (wrap32 (a2))).bind fun t291 => ((polyptychref1_Put.f (wrap32 (a2))).bind fun t294 => (if (strOfNums t291).toList = (strOfNums t294).toList then ((utfd_Put.f k1 (wrap32 (Go.bits .and .i64 a2 2097151))).bind fun t297 => ((polyptychref1_Put.f (wrap32 (Go.bits .and .i64 a2 2097151))).bind fun t300 => (if (strOfNums t297).toList = (strOfNums t300).toList then ((polyptychlaw1_awake.f k1).bind fun t303 => (some t303)) else (some false)))) else (some false)))) = some r := by rw [if_pos rfl] at H; exact H
       clear H
       have H := H1
       clear H1
       replace H := Option.bind_eq_some_iff.mp H
       obtain ⟨t291, A530, H⟩ := H
       (try dsimp only at H)
       have A53 := Aside0.mk A530
       clear A530
       replace H := Option.bind_eq_some_iff.mp H
       obtain ⟨t294, A540, H⟩ := H
       (try dsimp only at H)
       have A54 := Aside0.mk A540
       clear A540
       by_cases c55 : (strOfNums t291).toList = (strOfNums t294).toList
       ·
        rw [if_pos c55] at H
        have c55b0 : ((strOfNums t291).toList == (strOfNums t294).toList) = true := beq_iff_eq.mpr c55
        have c55b1 : ((strOfNums t291).toList != (strOfNums t294).toList) = false := bne_eq_false_iff_eq.mpr c55
        clear c55
        replace H := Option.bind_eq_some_iff.mp H
        obtain ⟨t297, A560, H⟩ := H
        (try dsimp only at H)
        have A56 := Aside0.mk A560
        clear A560
        replace H := Option.bind_eq_some_iff.mp H
        obtain ⟨t300, A570, H⟩ := H
        (try dsimp only at H)
        have A57 := Aside0.mk A570
        clear A570
        by_cases c58 : (strOfNums t297).toList = (strOfNums t300).toList
        ·
         rw [if_pos c58] at H
         have c58b0 : ((strOfNums t297).toList == (strOfNums t300).toList) = true := beq_iff_eq.mpr c58
         have c58b1 : ((strOfNums t297).toList != (strOfNums t300).toList) = false := bne_eq_false_iff_eq.mpr c58
         clear c58
         replace H := Option.bind_eq_some_iff.mp H
         obtain ⟨t303, A590, H⟩ := H
         (try dsimp only at H)
         have A59 := Aside0.mk A590
         clear A590
         obtain rfl := Option.some.inj H
         have hcz60_0 : wr.cell? ⟨gb251, 0, none⟩ = some (.int .i64 x252000_1) := (blk_cell BK251.out 0).trans rfl
         have hcz60_1 : wr.cell? ⟨gb251, 1, none⟩ = some (.int .i64 x252001_1) := (blk_cell BK251.out 1).trans rfl
         have hcz60_2 : wr.cell? ⟨gb251, 2, none⟩ = some (.int .i64 x252002_1) := (blk_cell BK251.out 2).trans rfl
         have hfz60_0 := blk_frozen BK251.out 0
         have hfz60_1 := blk_frozen BK251.out 1
         have hfz60_2 := blk_frozen BK251.out 2
         try go_wp2_with (first | ((with_reducible refine gate_callee (f := 7) rfl ?_); refine goesL_ (some 67) rfl rfl Try.func7 (by kernel_rfl) rfl #[.agg #[.int .i64 x252000_1, .int .i64 x252001_1, .int .i64 x252002_1], .int .u8 a1] rfl (by (try simp only [List.map_toArray, List.map_cons, List.map_nil]); first | done | rfl | (simp only [List.length_drop, List.length_take]; rfl)) ?_; (with_reducible refine (utfd_Step.calls k1 x252000_1 x252001_1 x252002_1 a1 t276 t277 t278 t279 _ A48.out).mono ?_); rintro e w61 ⟨v280, rfl, ho0, hb⟩; refine ⟨_, rfl, ?_⟩; have n0_ := Aside0.mk (Kd.R_lower ho0 (below_size (by repeat (first | (with_reducible first | exact HB.out | apply below_alloc | apply pw_below_drewN | apply below_drew1 | refine below_set ?_ GE251.out) | exact HB.out)))); have n1_ := Aside0.mk (blk_below (g := gb251) (o := .cells #[.int .i64 x252000_1, .int .i64 x252001_1, .int .i64 x252002_1] 25 (0, 0)) (by (with_reducible repeat (first | refine blk_drewN ?_ _ | refine blk_drew ?_ | refine blk_alloc ?_ _)); exact BK251.out) hb); have n2_ := Aside0.mk (below_step (by repeat (first | (with_reducible first | exact HB.out | apply below_alloc | apply pw_below_drewN | apply below_drew1 | refine below_set ?_ GE251.out) | exact HB.out)) hb); clear BK251; clear HB; have HO281 := n0_; have BK251 := n1_; have HB := n2_; clear n0_ n1_ n2_; (try clear hb); (try clear hb2); (try clear hk); (try clear hi); (try clear ho0)) | ((with_reducible refine gate_dst (N := 13) rfl ?_); refine box_event ?hg (N := 13) ?hd (cs := #[.int .i64 0, .int .i64 0, .int .i64 0]) (t := 25) ?hr ?_; (case hd => rfl); (case hg => rfl); (case hr => first | (go_simp; done) | (go_simp; rfl)); intro gb282 hg w62 hbox hb; have n0_ := Aside0.mk (Kd.R_below (by (with_reducible repeat (first | apply Kd.R_alloc | apply Kd.R_drewN | apply Kd.R_drew)); exact HO281.out) hb); have n1_ := Aside0.mk (blk_below (g := gb251) (o := .cells #[.int .i64 x252000_1, .int .i64 x252001_1, .int .i64 x252002_1] 25 (0, 0)) (by (with_reducible repeat (first | refine blk_drewN ?_ _ | refine blk_drew ?_ | refine blk_alloc ?_ _)); exact BK251.out) hb); have n2_ := Aside0.mk (below_step (by repeat (first | (with_reducible first | exact HB.out | apply below_alloc | apply pw_below_drewN | apply below_drew1 | refine below_set ?_ GE251.out) | exact HB.out)) hb); have n3_ := Aside0.mk (hbox); have n4_ := Aside0.mk ((by rw [hg]; exact (below_size (by repeat (first | (with_reducible first | exact HB.out | apply below_alloc | apply pw_below_drewN | apply below_drew1 | refine below_set ?_ GE251.out) | exact HB.out))) : w.heap.size ≤ gb282)); have n5_ := Aside0.mk ((by rw [hg]; exact (below_size (by repeat (first | (with_reducible first | exact HB.out | apply below_alloc | apply pw_below_drewN | apply below_drew1 | refine below_set ?_ GE251.out) | exact HB.out))) : w.heap.size ≤ gb282)); have n6_ := Aside0.mk ((by rw [hg]; exact Nat.ne_of_lt (blk_lt (g := gb251) (o := .cells #[.int .i64 x252000_1, .int .i64 x252001_1, .int .i64 x252002_1] 25 (0, 0)) (by (with_reducible repeat (first | refine blk_drewN ?_ _ | refine blk_drew ?_ | refine blk_alloc ?_ _)); exact BK251.out)) : gb251 ≠ gb282)); have n7_ := Aside0.mk ((by rw [hg]; exact Nat.ne_of_gt (blk_lt (g := gb251) (o := .cells #[.int .i64 x252000_1, .int .i64 x252001_1, .int .i64 x252002_1] 25 (0, 0)) (by (with_reducible repeat (first | refine blk_drewN ?_ _ | refine blk_drew ?_ | refine blk_alloc ?_ _)); exact BK251.out)) : gb282 ≠ gb251)); clear HO281; clear BK251; clear HB; have HO281 := n0_; have BK251 := n1_; have HB := n2_; have BK282 := n3_; have GW282 := n4_; have GE282 := n5_; have NB251_282 := n6_; have NB282_251 := n7_; clear n0_ n1_ n2_ n3_ n4_ n5_ n6_ n7_; clear hb hbox hg; have hnb63 := NB282_251.out; have hnc63 := NB251_282.out; have hcz64_0 : w62.cell? ⟨gb282, 0, none⟩ = some (.int .i64 0) := (blk_cell BK282.out 0).trans rfl; have hcz64_1 : w62.cell? ⟨gb282, 1, none⟩ = some (.int .i64 0) := (blk_cell BK282.out 1).trans rfl; have hcz64_2 : w62.cell? ⟨gb282, 2, none⟩ = some (.int .i64 0) := (blk_cell BK282.out 2).trans rfl; have hfz64_0 := blk_frozen BK282.out 0; have hfz64_1 := blk_frozen BK282.out 1; have hfz64_2 := blk_frozen BK282.out 2; have hcz65_0 : w62.cell? ⟨gb251, 0, none⟩ = some (.int .i64 x252000_1) := (blk_cell BK251.out 0).trans rfl; have hcz65_1 : w62.cell? ⟨gb251, 1, none⟩ = some (.int .i64 x252001_1) := (blk_cell BK251.out 1).trans rfl; have hcz65_2 : w62.cell? ⟨gb251, 2, none⟩ = some (.int .i64 x252002_1) := (blk_cell BK251.out 2).trans rfl; have hfz65_0 := blk_frozen BK251.out 0; have hfz65_1 := blk_frozen BK251.out 1; have hfz65_2 := blk_frozen BK251.out 2) | ((with_reducible refine gate_callee (f := 11) rfl ?_); refine goesL_ (some 73) rfl rfl Try.func11 (by kernel_rfl) rfl #[.agg #[.int .i64 x252000_1, .int .i64 x252001_1, .int .i64 x252002_1], .int .u8 a1] rfl (by (try simp only [List.map_toArray, List.map_cons, List.map_nil]); first | done | rfl | (simp only [List.length_drop, List.length_take]; rfl)) ?_; (with_reducible refine (polyptychref1_Utf.calls k1 x252000_1 x252001_1 x252002_1 a1 t283 t284 t285 t286 _ A49.out).mono ?_); rintro e w66 ⟨v287, rfl, ho0, hb⟩; refine ⟨_, rfl, ?_⟩; have n0_ := Aside0.mk (Kd.R_elder' (by (with_reducible repeat (first | apply Kd.R_alloc | apply Kd.R_drewN | apply Kd.R_drew)); exact (Kd.R_mono (Kd.R_far (p := ⟨gb282, 2, none⟩) (Kd.R_far (p := ⟨gb282, 1, none⟩) (Kd.R_far (p := ⟨gb282, 0, none⟩) (Kd.R_types HO281.out BK282.out (by decide)) (fun _ hk => hk.2) (.int .i64 t276)) (fun _ hk => hk.2) (.int .i64 t277)) (fun _ hk => hk.2) (.int .i64 t278)) (fun _ h_ => h_.1))) (Kd.R_base ho0) hb); have n1_ := Aside0.mk (Kd.R_lower (Kd.R_new' ho0 (Kd.R_lt (by (with_reducible repeat (first | apply Kd.R_alloc | apply Kd.R_drewN | apply Kd.R_drew)); exact (Kd.R_mono (Kd.R_far (p := ⟨gb282, 2, none⟩) (Kd.R_far (p := ⟨gb282, 1, none⟩) (Kd.R_far (p := ⟨gb282, 0, none⟩) (Kd.R_types HO281.out BK282.out (by decide)) (fun _ hk => hk.2) (.int .i64 t276)) (fun _ hk => hk.2) (.int .i64 t277)) (fun _ hk => hk.2) (.int .i64 t278)) (fun _ h_ => h_.1))))) (below_size (by repeat (first | (with_reducible first | exact HB.out | apply below_alloc | apply pw_below_drewN | apply below_drew1 | refine below_set ?_ GE251.out | refine below_set ?_ GE282.out) | exact HB.out)))); have n2_ := Aside0.mk (blk_below (g := gb251) (o := .cells #[.int .i64 x252000_1, .int .i64 x252001_1, .int .i64 x252002_1] 25 (0, 0)) (by (with_reducible repeat (first | refine blk_drewN ?_ _ | refine blk_drew ?_ | refine blk_alloc ?_ _)); refine blk_far ?_ NB251_282.out _; (with_reducible repeat (first | refine blk_drewN ?_ _ | refine blk_drew ?_ | refine blk_alloc ?_ _)); refine blk_far ?_ NB251_282.out _; (with_reducible repeat (first | refine blk_drewN ?_ _ | refine blk_drew ?_ | refine blk_alloc ?_ _)); refine blk_far ?_ NB251_282.out _; (with_reducible repeat (first | refine blk_drewN ?_ _ | refine blk_drew ?_ | refine blk_alloc ?_ _)); exact BK251.out) hb); have n3_ := Aside0.mk (blk_below (g := gb282) (o := .cells #[.int .i64 t276, .int .i64 t277, .int .i64 t278] 25 (0, 0)) (by (with_reducible repeat (first | refine blk_drewN ?_ _ | refine blk_drew ?_ | refine blk_alloc ?_ _)); refine blk_put (cs := #[.int .i64 t276, .int .i64 t277, .int .i64 0]) ?_ 2 _ rfl; (with_reducible repeat (first | refine blk_drewN ?_ _ | refine blk_drew ?_ | refine blk_alloc ?_ _)); refine blk_put (cs := #[.int .i64 t276, .int .i64 0, .int .i64 0]) ?_ 1 _ rfl; (with_reducible repeat (first | refine blk_drewN ?_ _ | refine blk_drew ?_ | refine blk_alloc ?_ _)); refine blk_put (cs := #[.int .i64 0, .int .i64 0, .int .i64 0]) ?_ 0 _ rfl; (with_reducible repeat (first | refine blk_drewN ?_ _ | refine blk_drew ?_ | refine blk_alloc ?_ _)); exact BK282.out) hb); have n4_ := Aside0.mk (below_step (by repeat (first | (with_reducible first | exact HB.out | apply below_alloc | apply pw_below_drewN | apply below_drew1 | refine below_set ?_ GE251.out | refine below_set ?_ GE282.out) | exact HB.out)) hb); clear HO281; clear BK251; clear BK282; clear HB; have HO281 := n0_; have HO288 := n1_; have BK251 := n2_; have BK282 := n3_; have HB := n4_; clear n0_ n1_ n2_ n3_ n4_; (try clear hb); (try clear hb2); (try clear hk); (try clear hi); (try clear ho0)) | ((with_reducible refine gate_dst (N := 15) rfl ?_); refine box_event ?hg (N := 15) ?hd (cs := #[.int .i64 0, .int .i64 0, .int .i64 0]) (t := 25) ?hr ?_; (case hd => rfl); (case hg => rfl); (case hr => first | (go_simp; done) | (go_simp; rfl)); intro gb289 hg w67 hbox hb; have n0_ := Aside0.mk (Kd.R_below (by (with_reducible repeat (first | apply Kd.R_alloc | apply Kd.R_drewN | apply Kd.R_drew)); exact HO281.out) hb); have n1_ := Aside0.mk (Kd.R_below (by (with_reducible repeat (first | apply Kd.R_alloc | apply Kd.R_drewN | apply Kd.R_drew)); exact HO288.out) hb); have n2_ := Aside0.mk (blk_below (g := gb251) (o := .cells #[.int .i64 x252000_1, .int .i64 x252001_1, .int .i64 x252002_1] 25 (0, 0)) (by (with_reducible repeat (first | refine blk_drewN ?_ _ | refine blk_drew ?_ | refine blk_alloc ?_ _)); exact BK251.out) hb); have n3_ := Aside0.mk (blk_below (g := gb282) (o := .cells #[.int .i64 t276, .int .i64 t277, .int .i64 t278] 25 (0, 0)) (by (with_reducible repeat (first | refine blk_drewN ?_ _ | refine blk_drew ?_ | refine blk_alloc ?_ _)); exact BK282.out) hb); have n4_ := Aside0.mk (below_step (by repeat (first | (with_reducible first | exact HB.out | apply below_alloc | apply pw_below_drewN | apply below_drew1 | refine below_set ?_ GE251.out | refine below_set ?_ GE282.out) | exact HB.out)) hb); have n5_ := Aside0.mk (hbox); have n6_ := Aside0.mk ((by rw [hg]; exact (below_size (by repeat (first | (with_reducible first | exact HB.out | apply below_alloc | apply pw_below_drewN | apply below_drew1 | refine below_set ?_ GE251.out | refine below_set ?_ GE282.out) | exact HB.out))) : w.heap.size ≤ gb289)); have n7_ := Aside0.mk ((by rw [hg]; exact (below_size (by repeat (first | (with_reducible first | exact HB.out | apply below_alloc | apply pw_below_drewN | apply below_drew1 | refine below_set ?_ GE251.out | refine below_set ?_ GE282.out) | exact HB.out))) : w.heap.size ≤ gb289)); have n8_ := Aside0.mk ((by rw [hg]; exact Nat.ne_of_lt (blk_lt (g := gb251) (o := .cells #[.int .i64 x252000_1, .int .i64 x252001_1, .int .i64 x252002_1] 25 (0, 0)) (by (with_reducible repeat (first | refine blk_drewN ?_ _ | refine blk_drew ?_ | refine blk_alloc ?_ _)); exact BK251.out)) : gb251 ≠ gb289)); have n9_ := Aside0.mk ((by rw [hg]; exact Nat.ne_of_gt (blk_lt (g := gb251) (o := .cells #[.int .i64 x252000_1, .int .i64 x252001_1, .int .i64 x252002_1] 25 (0, 0)) (by (with_reducible repeat (first | refine blk_drewN ?_ _ | refine blk_drew ?_ | refine blk_alloc ?_ _)); exact BK251.out)) : gb289 ≠ gb251)); have n10_ := Aside0.mk ((by rw [hg]; exact Nat.ne_of_lt (blk_lt (g := gb282) (o := .cells #[.int .i64 t276, .int .i64 t277, .int .i64 t278] 25 (0, 0)) (by (with_reducible repeat (first | refine blk_drewN ?_ _ | refine blk_drew ?_ | refine blk_alloc ?_ _)); exact BK282.out)) : gb282 ≠ gb289)); have n11_ := Aside0.mk ((by rw [hg]; exact Nat.ne_of_gt (blk_lt (g := gb282) (o := .cells #[.int .i64 t276, .int .i64 t277, .int .i64 t278] 25 (0, 0)) (by (with_reducible repeat (first | refine blk_drewN ?_ _ | refine blk_drew ?_ | refine blk_alloc ?_ _)); exact BK282.out)) : gb289 ≠ gb282)); clear HO281; clear HO288; clear BK251; clear BK282; clear HB; have HO281 := n0_; have HO288 := n1_; have BK251 := n2_; have BK282 := n3_; have HB := n4_; have BK289 := n5_; have GW289 := n6_; have GE289 := n7_; have NB251_289 := n8_; have NB289_251 := n9_; have NB282_289 := n10_; have NB289_282 := n11_; clear n0_ n1_ n2_ n3_ n4_ n5_ n6_ n7_ n8_ n9_ n10_ n11_; clear hb hbox hg; have hnb68 := NB289_251.out; have hnc68 := NB251_289.out; have hnb69 := NB289_282.out; have hnc69 := NB282_289.out; have hcz70_0 : w67.cell? ⟨gb289, 0, none⟩ = some (.int .i64 0) := (blk_cell BK289.out 0).trans rfl; have hcz70_1 : w67.cell? ⟨gb289, 1, none⟩ = some (.int .i64 0) := (blk_cell BK289.out 1).trans rfl; have hcz70_2 : w67.cell? ⟨gb289, 2, none⟩ = some (.int .i64 0) := (blk_cell BK289.out 2).trans rfl; have hfz70_0 := blk_frozen BK289.out 0; have hfz70_1 := blk_frozen BK289.out 1; have hfz70_2 := blk_frozen BK289.out 2; obtain ⟨Ao71, co71, eo71⟩ := Kd.R_slice HO281.out; subst eo71; obtain ⟨Ao72, co72, eo72⟩ := Kd.R_slice HO288.out; subst eo72))
         have n0_ : Aside0 (Kd.R (Kd.int .i32) 21 (((w67.setCell ⟨gb289, 0, none⟩ (.int .i64 t283)).setCell ⟨gb289, 1, none⟩ (.int .i64 t284)).setCell ⟨gb289, 2, none⟩ (.int .i64 t285)) w.heap.size (fun k_ => some k_ ≠ (.slice Ao72 t286.length co72 : Value).ownBlock) (.slice Ao71 t279.length co71) t279) := ⟨by (with_reducible repeat (first | apply Kd.R_alloc | apply Kd.R_drewN | apply Kd.R_drew)); exact Kd.R_mono (Kd.R_far (p := ⟨gb289, 2, none⟩) (Kd.R_far (p := ⟨gb289, 1, none⟩) (Kd.R_far (p := ⟨gb289, 0, none⟩) (Kd.R_types HO281.out BK289.out (by decide)) (fun _ hk => hk.2) (.int .i64 t283)) (fun _ hk => hk.2) (.int .i64 t284)) (fun _ hk => hk.2) (.int .i64 t285)) (fun _ hk => hk.1.2)⟩
         have n1_ : Aside0 (Kd.R (Kd.int .i32) 21 (((w67.setCell ⟨gb289, 0, none⟩ (.int .i64 t283)).setCell ⟨gb289, 1, none⟩ (.int .i64 t284)).setCell ⟨gb289, 2, none⟩ (.int .i64 t285)) w.heap.size (fun k_ => some k_ ≠ (.slice Ao71 t279.length co71 : Value).ownBlock) (.slice Ao72 t286.length co72) t286) := ⟨by (with_reducible repeat (first | apply Kd.R_alloc | apply Kd.R_drewN | apply Kd.R_drew)); exact Kd.R_mono (Kd.R_far (p := ⟨gb289, 2, none⟩) (Kd.R_far (p := ⟨gb289, 1, none⟩) (Kd.R_far (p := ⟨gb289, 0, none⟩) (Kd.R_types HO288.out BK289.out (by decide)) (fun _ hk => hk.2) (.int .i64 t283)) (fun _ hk => hk.2) (.int .i64 t284)) (fun _ hk => hk.2) (.int .i64 t285)) (fun _ hk => hk.1.2)⟩
         have n2_ : Aside0 ((((w67.setCell ⟨gb289, 0, none⟩ (.int .i64 t283)).setCell ⟨gb289, 1, none⟩ (.int .i64 t284)).setCell ⟨gb289, 2, none⟩ (.int .i64 t285)).heap[gb251]? = some (.cells #[.int .i64 x252000_1, .int .i64 x252001_1, .int .i64 x252002_1] 25 (0, 0))) := ⟨by (with_reducible repeat (first | refine blk_drewN ?_ _ | refine blk_drew ?_ | refine blk_alloc ?_ _)); refine blk_far ?_ NB251_289.out _; (with_reducible repeat (first | refine blk_drewN ?_ _ | refine blk_drew ?_ | refine blk_alloc ?_ _)); refine blk_far ?_ NB251_289.out _; (with_reducible repeat (first | refine blk_drewN ?_ _ | refine blk_drew ?_ | refine blk_alloc ?_ _)); refine blk_far ?_ NB251_289.out _; (with_reducible repeat (first | refine blk_drewN ?_ _ | refine blk_drew ?_ | refine blk_alloc ?_ _)); exact BK251.out⟩
         have n3_ : Aside0 ((((w67.setCell ⟨gb289, 0, none⟩ (.int .i64 t283)).setCell ⟨gb289, 1, none⟩ (.int .i64 t284)).setCell ⟨gb289, 2, none⟩ (.int .i64 t285)).heap[gb282]? = some (.cells #[.int .i64 t276, .int .i64 t277, .int .i64 t278] 25 (0, 0))) := ⟨by (with_reducible repeat (first | refine blk_drewN ?_ _ | refine blk_drew ?_ | refine blk_alloc ?_ _)); refine blk_far ?_ NB282_289.out _; (with_reducible repeat (first | refine blk_drewN ?_ _ | refine blk_drew ?_ | refine blk_alloc ?_ _)); refine blk_far ?_ NB282_289.out _; (with_reducible repeat (first | refine blk_drewN ?_ _ | refine blk_drew ?_ | refine blk_alloc ?_ _)); refine blk_far ?_ NB282_289.out _; (with_reducible repeat (first | refine blk_drewN ?_ _ | refine blk_drew ?_ | refine blk_alloc ?_ _)); exact BK282.out⟩
         have n4_ : Aside0 ((((w67.setCell ⟨gb289, 0, none⟩ (.int .i64 t283)).setCell ⟨gb289, 1, none⟩ (.int .i64 t284)).setCell ⟨gb289, 2, none⟩ (.int .i64 t285)).heap[gb289]? = some (.cells #[.int .i64 t283, .int .i64 t284, .int .i64 t285] 25 (0, 0))) := ⟨by (with_reducible repeat (first | refine blk_drewN ?_ _ | refine blk_drew ?_ | refine blk_alloc ?_ _)); refine blk_put (cs := #[.int .i64 t283, .int .i64 t284, .int .i64 0]) ?_ 2 _ rfl; (with_reducible repeat (first | refine blk_drewN ?_ _ | refine blk_drew ?_ | refine blk_alloc ?_ _)); refine blk_put (cs := #[.int .i64 t283, .int .i64 0, .int .i64 0]) ?_ 1 _ rfl; (with_reducible repeat (first | refine blk_drewN ?_ _ | refine blk_drew ?_ | refine blk_alloc ?_ _)); refine blk_put (cs := #[.int .i64 0, .int .i64 0, .int .i64 0]) ?_ 0 _ rfl; (with_reducible repeat (first | refine blk_drewN ?_ _ | refine blk_drew ?_ | refine blk_alloc ?_ _)); exact BK289.out⟩
         have n5_ : Aside0 (Below w.heap.size w (((w67.setCell ⟨gb289, 0, none⟩ (.int .i64 t283)).setCell ⟨gb289, 1, none⟩ (.int .i64 t284)).setCell ⟨gb289, 2, none⟩ (.int .i64 t285))) := ⟨by repeat (first | (with_reducible first | exact HB.out | apply below_alloc | apply pw_below_drewN | apply below_drew1 | refine below_set ?_ GE251.out | refine below_set ?_ GE282.out | refine below_set ?_ GE289.out) | exact HB.out)⟩
         (try clear HO281)
         (try clear HO288)
         (try clear BK251)
         (try clear BK282)
         (try clear BK289)
         (try clear HB)
         generalize (((w67.setCell ⟨gb289, 0, none⟩ (.int .i64 t283)).setCell ⟨gb289, 1, none⟩ (.int .i64 t284)).setCell ⟨gb289, 2, none⟩ (.int .i64 t285)) = w73 at n0_ n1_ n2_ n3_ n4_ n5_ ⊢
         have HO281 := n0_
         have HO288 := n1_
         have BK251 := n2_
         have BK282 := n3_
         have BK289 := n4_
         have HB := n5_
         clear n0_ n1_ n2_ n3_ n4_ n5_
         have n0_ := Aside0.mk (Kd.R_drew HO281.out)
         have n1_ := Aside0.mk (Kd.R_drew HO288.out)
         have n2_ := Aside0.mk (blk_drew BK251.out)
         have n3_ := Aside0.mk (blk_drew BK282.out)
         have n4_ := Aside0.mk (blk_drew BK289.out)
         have n5_ := Aside0.mk (below_drew1 HB.out)
         clear HO281
         clear HO288
         clear BK251
         clear BK282
         clear BK289
         clear HB
         have HO281 := n0_
         have HO288 := n1_
         have BK251 := n2_
         have BK282 := n3_
         have BK289 := n4_
         have HB := n5_
         clear n0_ n1_ n2_ n3_ n4_ n5_
         refine start_ (n := 36) (S := fun w' => w'.cell? ⟨gb282, 0, none⟩ = some (.int .i64 t276) ∧ w'.cell? ⟨gb282, 1, none⟩ = some (.int .i64 t277) ∧ w'.cell? ⟨gb282, 2, none⟩ = some (.int .i64 t278) ∧ w'.cell? ⟨gb289, 0, none⟩ = some (.int .i64 t283) ∧ w'.cell? ⟨gb289, 1, none⟩ = some (.int .i64 t284) ∧ w'.cell? ⟨gb289, 2, none⟩ = some (.int .i64 t285)) (ds := []) #[false, false, false, false, false, false, false, false, false, false, false, false, false, false, false, false, false, false, false, false, false, false, false, false, false, false, false, false, false, false, false, false, false, false, false, false] (by kernel_rfl) rfl rfl ⟨(blk_cell BK282.out 0).trans rfl, (blk_cell BK282.out 1).trans rfl, (blk_cell BK282.out 2).trans rfl, (blk_cell BK289.out 0).trans rfl, (blk_cell BK289.out 1).trans rfl, (blk_cell BK289.out 2).trans rfl⟩ (fun hHeld => ?_); refine with_tabW polyptychlaw1_UtfdTells.tab14 polyptychlaw1_UtfdTells.bits14 (fun HT_ HW_ => ?_)
         generalize w73.drew = w74 at HO281 HO288 BK251 BK282 BK289 HB hHeld ⊢
         refine take_ (i := 0) (N := some 76) (v := ?_) (a' := ?_) #[true, false, false, false, false, false, false, false, false, false, false, false, false, false, false, false, false, false, false, false, false, false, false, false, false, false, false, false, false, false, false, false, false, false, false, false] rfl rfl (take_ofW HT_.out HW_.out (by kernel_rfl)) (fun _ _ _ h => h) (Or.inl ⟨by rfl, ?_⟩) hHeld ?_ ?_
         rotate_left
         ·
          rintro w' ⟨s0, s1, s2, s3, s4, s5⟩
          go_simp
          with_reducible rfl
         rotate_left
         ·
          simp only [Act.put, List.setIfInBounds_toArray, List.set_cons_zero, List.set_cons_succ, i64_w, i32_w]
          rfl
         refine take_ (i := 1) (N := some 77) (v := ?_) (a' := ?_) #[true, true, false, false, false, false, false, false, false, false, false, false, false, false, false, false, false, false, false, false, false, false, false, false, false, false, false, false, false, false, false, false, false, false, false, false] rfl rfl (take_ofW HT_.out HW_.out (by kernel_rfl)) (fun _ _ _ h => h) (Or.inl ⟨by rfl, ?_⟩) hHeld ?_ ?_
         rotate_left
         ·
          rintro w' ⟨s0, s1, s2, s3, s4, s5⟩
          go_simp
          with_reducible rfl
         rotate_left
         ·
          simp only [Act.put, List.setIfInBounds_toArray, List.set_cons_zero, List.set_cons_succ, i64_w, i32_w]
          rfl
         refine pure_ (i := 2) (N := some 78) (v := ?_) (a' := ?_) #[true, true, true, false, false, false, false, false, false, false, false, false, false, false, false, false, false, false, false, false, false, false, false, false, false, false, false, false, false, false, false, false, false, false, false, false] rfl rfl (any_of HT_.out (by kernel_rfl)) (fun _ _ _ h => h) (Or.inl ⟨by rfl, ?_⟩) ?_ ?_
         rotate_left
         ·
          intro w'
          go_simp
          with_reducible rfl
         rotate_left
         ·
          simp only [Act.put, List.setIfInBounds_toArray, List.set_cons_zero, List.set_cons_succ, i64_w, i32_w]
          rfl
         refine pure_ (i := 3) (N := some 79) (v := ?_) (a' := ?_) #[true, true, true, true, false, false, false, false, false, false, false, false, false, false, false, false, false, false, false, false, false, false, false, false, false, false, false, false, false, false, false, false, false, false, false, false] rfl rfl (any_of HT_.out (by kernel_rfl)) (fun _ _ _ h => h) (Or.inl ⟨by rfl, ?_⟩) ?_ ?_
         rotate_left
         ·
          intro w'
          go_simp
          with_reducible rfl
         rotate_left
         ·
          simp only [Act.put, List.setIfInBounds_toArray, List.set_cons_zero, List.set_cons_succ, i64_w, i32_w]
          rfl
         refine pure_ (i := 4) (N := some 80) (v := ?_) (a' := ?_) #[true, true, true, true, true, false, false, false, false, false, false, false, false, false, false, false, false, false, false, false, false, false, false, false, false, false, false, false, false, false, false, false, false, false, false, false] rfl rfl (any_of HT_.out (by kernel_rfl)) (fun _ _ _ h => h) (Or.inl ⟨by rfl, ?_⟩) ?_ ?_
         rotate_left
         ·
          intro w'
          go_simp
          with_reducible rfl
         rotate_left
         ·
          simp only [Act.put, List.setIfInBounds_toArray, List.set_cons_zero, List.set_cons_succ, i64_w, i32_w]
          rfl
         refine pure_ (i := 5) (N := some 81) (v := ?_) (a' := ?_) #[true, true, true, true, true, true, false, false, false, false, false, false, false, false, false, false, false, false, false, false, false, false, false, false, false, false, false, false, false, false, false, false, false, false, false, false] rfl rfl (any_of HT_.out (by kernel_rfl)) (fun _ _ _ h => h) (Or.inl ⟨by rfl, ?_⟩) ?_ ?_
         rotate_left
         ·
          intro w'
          go_simp
          with_reducible rfl
         rotate_left
         ·
          simp only [Act.put, List.setIfInBounds_toArray, List.set_cons_zero, List.set_cons_succ, i64_w, i32_w]
          rfl
         refine one_ (i := 6) (N := some 82) #[true, true, true, true, true, true, true, false, false, false, false, false, false, false, false, false, false, false, false, false, false, false, false, false, false, false, false, false, false, false, false, false, false, false, false, false] rfl rfl (one_of HT_.out (by kernel_rfl)) (by decide) (fun K hK => ?_)
         refine goes_ Try.func10 (by kernel_rfl) rfl #[.slice Ao71 t279.length co71, .slice Ao72 t286.length co72] (by rfl) rfl rfl (by (try simp only [List.map_toArray, List.map_cons, List.map_nil]); first | done | rfl | (simp only [List.length_drop, List.length_take]; rfl)) ?_
         with_reducible refine (polyptychref1_SameRunes.calls _ _ t279 _ _ t286 true _ ?side1 ?side2 ?side3 ?side4 A51.out).mono ?_
         (case side1 => repeat (first | exact (Kd.R_reads' HO281.out).2.2 | (with_reducible refine Kd.C_alloc ?_ _) | (with_reducible refine Kd.C_drewN ?_ _) | (with_reducible refine Kd.C_drew ?_)))
         (case side2 => exact (Kd.R_reads' HO281.out).2.1)
         (case side3 => repeat (first | exact (Kd.R_reads' HO288.out).2.2 | (with_reducible refine Kd.C_alloc ?_ _) | (with_reducible refine Kd.C_drewN ?_ _) | (with_reducible refine Kd.C_drew ?_)))
         (case side4 => exact (Kd.R_reads' HO288.out).2.1)
         rintro e w' ⟨rfl, ⟨nd, rfl⟩⟩
         refine ⟨_, rfl, ?_⟩
         refine hK.out _ _ ⟨(blk_cell BK282.out 0).trans rfl, (blk_cell BK282.out 1).trans rfl, (blk_cell BK282.out 2).trans rfl, (blk_cell BK289.out 0).trans rfl, (blk_cell BK289.out 1).trans rfl, (blk_cell BK289.out 2).trans rfl⟩ (fun hHeld => ?_)
         clear hK K
         refine norm_ (a' := ?_) ?_ ?_
         rotate_left
         ·
          show Act.put _ (some 82) _ = _
          simp only [Act.put, List.setIfInBounds_toArray, List.set_cons_zero, List.set_cons_succ, i64_w, i32_w]
          rfl
         refine pure_ (i := 7) (N := some 83) (v := ?_) (a' := ?_) #[true, true, true, true, true, true, true, true, false, false, false, false, false, false, false, false, false, false, false, false, false, false, false, false, false, false, false, false, false, false, false, false, false, false, false, false] rfl rfl (any_of HT_.out (by kernel_rfl)) (fun _ _ _ h => h) (Or.inl ⟨by rfl, ?_⟩) ?_ ?_
         rotate_left
         ·
          intro w'
          go_simp
          with_reducible rfl
         rotate_left
         ·
          simp only [Act.put, List.setIfInBounds_toArray, List.set_cons_zero, List.set_cons_succ, i64_w, i32_w]
          rfl
         refine pure_ (i := 8) (N := some 84) (v := ?_) (a' := ?_) #[true, true, true, true, true, true, true, true, true, false, false, false, false, false, false, false, false, false, false, false, false, false, false, false, false, false, false, false, false, false, false, false, false, false, false, false] rfl rfl (any_of HT_.out (by kernel_rfl)) (fun _ _ _ h => h) (Or.inl ⟨by rfl, ?_⟩) ?_ ?_
         rotate_left
         ·
          intro w'
          go_simp
          with_reducible rfl
         rotate_left
         ·
          simp only [Act.put, List.setIfInBounds_toArray, List.set_cons_zero, List.set_cons_succ, i64_w, i32_w]
          rfl
         refine pure_ (i := 9) (N := some 85) (v := ?_) (a' := ?_) #[true, true, true, true, true, true, true, true, true, true, false, false, false, false, false, false, false, false, false, false, false, false, false, false, false, false, false, false, false, false, false, false, false, false, false, false] rfl rfl (any_of HT_.out (by kernel_rfl)) (fun _ _ _ h => h) (Or.inl ⟨by rfl, ?_⟩) ?_ ?_
         rotate_left
         ·
          intro w'
          go_simp
          with_reducible rfl
         rotate_left
         ·
          simp only [Act.put, List.setIfInBounds_toArray, List.set_cons_zero, List.set_cons_succ, i64_w, i32_w]
          rfl
         refine pure_ (i := 10) (N := some 86) (v := ?_) (a' := ?_) #[true, true, true, true, true, true, true, true, true, true, true, false, false, false, false, false, false, false, false, false, false, false, false, false, false, false, false, false, false, false, false, false, false, false, false, false] rfl rfl (any_of HT_.out (by kernel_rfl)) (fun _ _ _ h => h) (Or.inl ⟨by rfl, ?_⟩) ?_ ?_
         rotate_left
         ·
          intro w'
          go_simp
          with_reducible rfl
         rotate_left
         ·
          simp only [Act.put, List.setIfInBounds_toArray, List.set_cons_zero, List.set_cons_succ, i64_w, i32_w]
          rfl
         refine pure_ (i := 13) (N := some 89) (v := ?_) (a' := ?_) #[true, true, true, true, true, true, true, true, true, true, true, false, false, true, false, false, false, false, false, false, false, false, false, false, false, false, false, false, false, false, false, false, false, false, false, false] rfl rfl (any_of HT_.out (by kernel_rfl)) (fun _ _ _ h => h) (Or.inl ⟨by rfl, ?_⟩) ?_ ?_
         rotate_left
         ·
          intro w'
          go_simp
          with_reducible rfl
         rotate_left
         ·
          simp only [Act.put, List.setIfInBounds_toArray, List.set_cons_zero, List.set_cons_succ, i64_w, i32_w]
          rfl
         refine pure_ (i := 14) (N := some 90) (v := ?_) (a' := ?_) #[true, true, true, true, true, true, true, true, true, true, true, false, false, true, true, false, false, false, false, false, false, false, false, false, false, false, false, false, false, false, false, false, false, false, false, false] rfl rfl (any_of HT_.out (by kernel_rfl)) (fun _ _ _ h => h) (Or.inl ⟨by rfl, ?_⟩) ?_ ?_
         rotate_left
         ·
          intro w'
          go_simp
          with_reducible rfl
         rotate_left
         ·
          simp only [Act.put, List.setIfInBounds_toArray, List.set_cons_zero, List.set_cons_succ, i64_w, i32_w]
          rfl
         refine one_ (i := 11) (N := some 87) #[true, true, true, true, true, true, true, true, true, true, true, true, false, true, true, false, false, false, false, false, false, false, false, false, false, false, false, false, false, false, false, false, false, false, false, false] rfl rfl (one_of HT_.out (by kernel_rfl)) (by decide) (fun K hK => ?_)
         refine goes_ Try.func13 (by kernel_rfl) rfl #[.int .i32 (wrap32 (a2))] (by rfl) rfl rfl (by (try simp only [List.map_toArray, List.map_cons, List.map_nil]); first | done | rfl | (simp only [List.length_drop, List.length_take]; rfl)) ?_
         with_reducible refine (utfd_Put.calls k1 (wrap32 (a2)) t291 _ A53.out).mono ?_
         rintro e w75 ⟨v292, rfl, ho0, hb⟩
         refine ⟨_, rfl, ?_⟩
         have n0_ := Aside0.mk (Kd.R_below (by (with_reducible repeat (first | apply Kd.R_alloc | apply Kd.R_drewN | apply Kd.R_drew)); exact HO281.out) hb)
         have n1_ := Aside0.mk (Kd.R_below (by (with_reducible repeat (first | apply Kd.R_alloc | apply Kd.R_drewN | apply Kd.R_drew)); exact HO288.out) hb)
         have n2_ := Aside0.mk (Kd.R_lower ho0 (below_size (by repeat (first | (with_reducible first | exact HB.out | apply below_alloc | apply pw_below_drewN | apply below_drew1 | refine below_set ?_ GE251.out | refine below_set ?_ GE282.out | refine below_set ?_ GE289.out) | exact HB.out))))
         have n3_ := Aside0.mk (blk_below (g := gb251) (o := .cells #[.int .i64 x252000_1, .int .i64 x252001_1, .int .i64 x252002_1] 25 (0, 0)) (by (with_reducible repeat (first | refine blk_drewN ?_ _ | refine blk_drew ?_ | refine blk_alloc ?_ _)); exact BK251.out) hb)
         have n4_ := Aside0.mk (blk_below (g := gb282) (o := .cells #[.int .i64 t276, .int .i64 t277, .int .i64 t278] 25 (0, 0)) (by (with_reducible repeat (first | refine blk_drewN ?_ _ | refine blk_drew ?_ | refine blk_alloc ?_ _)); exact BK282.out) hb)
         have n5_ := Aside0.mk (blk_below (g := gb289) (o := .cells #[.int .i64 t283, .int .i64 t284, .int .i64 t285] 25 (0, 0)) (by (with_reducible repeat (first | refine blk_drewN ?_ _ | refine blk_drew ?_ | refine blk_alloc ?_ _)); exact BK289.out) hb)
         have n6_ := Aside0.mk (below_step (by repeat (first | (with_reducible first | exact HB.out | apply below_alloc | apply pw_below_drewN | apply below_drew1 | refine below_set ?_ GE251.out | refine below_set ?_ GE282.out | refine below_set ?_ GE289.out) | exact HB.out)) hb)
         clear HO281
         clear HO288
         clear BK251
         clear BK282
         clear BK289
         clear HB
         have HO281 := n0_
         have HO288 := n1_
         have HO293 := n2_
         have BK251 := n3_
         have BK282 := n4_
         have BK289 := n5_
         have HB := n6_
         clear n0_ n1_ n2_ n3_ n4_ n5_ n6_
         (try clear hb)
         (try clear hb2)
         (try clear hk)
         (try clear hi)
         (try clear ho0)
         refine hK.out _ _ ⟨(blk_cell BK282.out 0).trans rfl, (blk_cell BK282.out 1).trans rfl, (blk_cell BK282.out 2).trans rfl, (blk_cell BK289.out 0).trans rfl, (blk_cell BK289.out 1).trans rfl, (blk_cell BK289.out 2).trans rfl⟩ (fun hHeld => ?_)
         clear hK K
         refine norm_ (a' := ?_) ?_ ?_
         rotate_left
         ·
          show Act.put _ (some 87) _ = _
          simp only [Act.put, List.setIfInBounds_toArray, List.set_cons_zero, List.set_cons_succ, i64_w, i32_w]
          rfl
         refine join_ (σ := Value × Value × Value) 6 #[true, true, true, true, true, true, true, true, true, true, true, true, true, true, true, true, true, true, true, true, true, true, true, true, true, true, true, true, true, true, false, false, false, false, false, false] (fun s_ => [(88, .string (strOfNums t291)), (91, s_.1), (92, .string (strOfNums t294)), (99, s_.2.1), (100, .string (strOfNums t297)), (104, s_.2.2), (105, .string (strOfNums t300)), (93, .bool true), (94, .bool true), (95, .bool true), (96, .int .i64 a2), (97, .int .i64 (Go.bits .and .i64 a2 2097151)), (98, .int .i32 (wrap32 (Go.bits .and .i64 a2 2097151))), (101, .int .i64 a2), (102, .int .i64 (Go.bits .and .i64 a2 2097151)), (103, .int .i32 (wrap32 (Go.bits .and .i64 a2 2097151)))]) (fun s_ w' => (w'.cell? ⟨gb282, 0, none⟩ = some (.int .i64 t276) ∧ w'.cell? ⟨gb282, 1, none⟩ = some (.int .i64 t277) ∧ w'.cell? ⟨gb282, 2, none⟩ = some (.int .i64 t278) ∧ w'.cell? ⟨gb289, 0, none⟩ = some (.int .i64 t283) ∧ w'.cell? ⟨gb289, 1, none⟩ = some (.int .i64 t284) ∧ w'.cell? ⟨gb289, 2, none⟩ = some (.int .i64 t285)) ∧ (Kd.R (Kd.int .i32) 21 w' w.heap.size (fun k_ => some k_ ≠ (.slice Ao72 t286.length co72 : Value).ownBlock) (.slice Ao71 t279.length co71) t279) ∧ (Kd.R (Kd.int .i32) 21 w' w.heap.size (fun k_ => some k_ ≠ (.slice Ao71 t279.length co71 : Value).ownBlock) (.slice Ao72 t286.length co72) t286) ∧ (Kd.R (Kd.int .u8) 5 w' w.heap.size (fun k_ => some k_ ≠ (s_.1 : Value).ownBlock ∧ some k_ ≠ (s_.2.1 : Value).ownBlock ∧ some k_ ≠ (s_.2.2 : Value).ownBlock) v292 t291) ∧ (Kd.R (Kd.int .u8) 5 w' w.heap.size (fun k_ => some k_ ≠ (v292 : Value).ownBlock ∧ some k_ ≠ (s_.2.1 : Value).ownBlock ∧ some k_ ≠ (s_.2.2 : Value).ownBlock) s_.1 t294) ∧ (Kd.R (Kd.int .u8) 5 w' w.heap.size (fun k_ => some k_ ≠ (v292 : Value).ownBlock ∧ some k_ ≠ (s_.1 : Value).ownBlock ∧ some k_ ≠ (s_.2.2 : Value).ownBlock) s_.2.1 t297) ∧ (Kd.R (Kd.int .u8) 5 w' w.heap.size (fun k_ => some k_ ≠ (v292 : Value).ownBlock ∧ some k_ ≠ (s_.1 : Value).ownBlock ∧ some k_ ≠ (s_.2.1 : Value).ownBlock) s_.2.2 t300) ∧ (w'.heap[gb251]? = some (.cells #[.int .i64 x252000_1, .int .i64 x252001_1, .int .i64 x252002_1] 25 (0, 0))) ∧ (w'.heap[gb282]? = some (.cells #[.int .i64 t276, .int .i64 t277, .int .i64 t278] 25 (0, 0))) ∧ (w'.heap[gb289]? = some (.cells #[.int .i64 t283, .int .i64 t284, .int .i64 t285] 25 (0, 0))) ∧ (Below w.heap.size w w')) ?_ ?_
         rotate_left
         ·
          intro hJ12_15_16_23_24_28_29
          refine join_ (σ := Value × Value × Value) 7 #[true, true, true, true, true, true, true, true, true, true, true, true, true, true, true, true, true, true, true, true, true, true, true, true, true, true, true, true, true, false, false, false, false, false, false, false] (fun s_ => [(88, .string (strOfNums t291)), (91, s_.1), (92, .string (strOfNums t294)), (99, s_.2.1), (100, .string (strOfNums t297)), (104, s_.2.2), (93, .bool true), (94, .bool true), (95, .bool true), (96, .int .i64 a2), (97, .int .i64 (Go.bits .and .i64 a2 2097151)), (98, .int .i32 (wrap32 (Go.bits .and .i64 a2 2097151))), (101, .int .i64 a2), (102, .int .i64 (Go.bits .and .i64 a2 2097151)), (103, .int .i32 (wrap32 (Go.bits .and .i64 a2 2097151)))]) (fun s_ w' => (w'.cell? ⟨gb282, 0, none⟩ = some (.int .i64 t276) ∧ w'.cell? ⟨gb282, 1, none⟩ = some (.int .i64 t277) ∧ w'.cell? ⟨gb282, 2, none⟩ = some (.int .i64 t278) ∧ w'.cell? ⟨gb289, 0, none⟩ = some (.int .i64 t283) ∧ w'.cell? ⟨gb289, 1, none⟩ = some (.int .i64 t284) ∧ w'.cell? ⟨gb289, 2, none⟩ = some (.int .i64 t285)) ∧ (Kd.R (Kd.int .i32) 21 w' w.heap.size (fun k_ => some k_ ≠ (.slice Ao72 t286.length co72 : Value).ownBlock) (.slice Ao71 t279.length co71) t279) ∧ (Kd.R (Kd.int .i32) 21 w' w.heap.size (fun k_ => some k_ ≠ (.slice Ao71 t279.length co71 : Value).ownBlock) (.slice Ao72 t286.length co72) t286) ∧ (Kd.R (Kd.int .u8) 5 w' w.heap.size (fun k_ => some k_ ≠ (s_.1 : Value).ownBlock ∧ some k_ ≠ (s_.2.1 : Value).ownBlock ∧ some k_ ≠ (s_.2.2 : Value).ownBlock) v292 t291) ∧ (Kd.R (Kd.int .u8) 5 w' w.heap.size (fun k_ => some k_ ≠ (v292 : Value).ownBlock ∧ some k_ ≠ (s_.2.1 : Value).ownBlock ∧ some k_ ≠ (s_.2.2 : Value).ownBlock) s_.1 t294) ∧ (Kd.R (Kd.int .u8) 5 w' w.heap.size (fun k_ => some k_ ≠ (v292 : Value).ownBlock ∧ some k_ ≠ (s_.1 : Value).ownBlock ∧ some k_ ≠ (s_.2.2 : Value).ownBlock) s_.2.1 t297) ∧ (Kd.R (Kd.int .u8) 5 w' w.heap.size (fun k_ => some k_ ≠ (v292 : Value).ownBlock ∧ some k_ ≠ (s_.1 : Value).ownBlock ∧ some k_ ≠ (s_.2.1 : Value).ownBlock) s_.2.2 t300) ∧ (w'.heap[gb251]? = some (.cells #[.int .i64 x252000_1, .int .i64 x252001_1, .int .i64 x252002_1] 25 (0, 0))) ∧ (w'.heap[gb282]? = some (.cells #[.int .i64 t276, .int .i64 t277, .int .i64 t278] 25 (0, 0))) ∧ (w'.heap[gb289]? = some (.cells #[.int .i64 t283, .int .i64 t284, .int .i64 t285] 25 (0, 0))) ∧ (Below w.heap.size w w')) ?_ ?_
          rotate_left
          ·
           intro hJ12_15_16_23_24_28
           refine join_ (σ := Value × Value × Value) 7 #[true, true, true, true, true, true, true, true, true, true, true, true, true, true, true, true, true, true, true, true, true, true, true, true, false, true, true, true, true, true, false, false, false, false, false, false] (fun s_ => [(88, .string (strOfNums t291)), (91, s_.1), (92, .string (strOfNums t294)), (99, s_.2.1), (104, s_.2.2), (105, .string (strOfNums t300)), (93, .bool true), (94, .bool true), (95, .bool true), (96, .int .i64 a2), (97, .int .i64 (Go.bits .and .i64 a2 2097151)), (98, .int .i32 (wrap32 (Go.bits .and .i64 a2 2097151))), (101, .int .i64 a2), (102, .int .i64 (Go.bits .and .i64 a2 2097151)), (103, .int .i32 (wrap32 (Go.bits .and .i64 a2 2097151)))]) (fun s_ w' => (w'.cell? ⟨gb282, 0, none⟩ = some (.int .i64 t276) ∧ w'.cell? ⟨gb282, 1, none⟩ = some (.int .i64 t277) ∧ w'.cell? ⟨gb282, 2, none⟩ = some (.int .i64 t278) ∧ w'.cell? ⟨gb289, 0, none⟩ = some (.int .i64 t283) ∧ w'.cell? ⟨gb289, 1, none⟩ = some (.int .i64 t284) ∧ w'.cell? ⟨gb289, 2, none⟩ = some (.int .i64 t285)) ∧ (Kd.R (Kd.int .i32) 21 w' w.heap.size (fun k_ => some k_ ≠ (.slice Ao72 t286.length co72 : Value).ownBlock) (.slice Ao71 t279.length co71) t279) ∧ (Kd.R (Kd.int .i32) 21 w' w.heap.size (fun k_ => some k_ ≠ (.slice Ao71 t279.length co71 : Value).ownBlock) (.slice Ao72 t286.length co72) t286) ∧ (Kd.R (Kd.int .u8) 5 w' w.heap.size (fun k_ => some k_ ≠ (s_.1 : Value).ownBlock ∧ some k_ ≠ (s_.2.1 : Value).ownBlock ∧ some k_ ≠ (s_.2.2 : Value).ownBlock) v292 t291) ∧ (Kd.R (Kd.int .u8) 5 w' w.heap.size (fun k_ => some k_ ≠ (v292 : Value).ownBlock ∧ some k_ ≠ (s_.2.1 : Value).ownBlock ∧ some k_ ≠ (s_.2.2 : Value).ownBlock) s_.1 t294) ∧ (Kd.R (Kd.int .u8) 5 w' w.heap.size (fun k_ => some k_ ≠ (v292 : Value).ownBlock ∧ some k_ ≠ (s_.1 : Value).ownBlock ∧ some k_ ≠ (s_.2.2 : Value).ownBlock) s_.2.1 t297) ∧ (Kd.R (Kd.int .u8) 5 w' w.heap.size (fun k_ => some k_ ≠ (v292 : Value).ownBlock ∧ some k_ ≠ (s_.1 : Value).ownBlock ∧ some k_ ≠ (s_.2.1 : Value).ownBlock) s_.2.2 t300) ∧ (w'.heap[gb251]? = some (.cells #[.int .i64 x252000_1, .int .i64 x252001_1, .int .i64 x252002_1] 25 (0, 0))) ∧ (w'.heap[gb282]? = some (.cells #[.int .i64 t276, .int .i64 t277, .int .i64 t278] 25 (0, 0))) ∧ (w'.heap[gb289]? = some (.cells #[.int .i64 t283, .int .i64 t284, .int .i64 t285] 25 (0, 0))) ∧ (Below w.heap.size w w')) ?_ ?_
           rotate_left
           ·
            intro hJ12_15_16_23_28_29
            refine join_ (σ := Value × Value) 8 #[true, true, true, true, true, true, true, true, true, true, true, true, true, true, true, true, true, true, true, true, true, true, true, true, true, true, true, true, false, false, false, false, false, false, false, false] (fun s_ => [(88, .string (strOfNums t291)), (91, s_.1), (92, .string (strOfNums t294)), (99, s_.2), (100, .string (strOfNums t297)), (93, .bool true), (94, .bool true), (95, .bool true), (96, .int .i64 a2), (97, .int .i64 (Go.bits .and .i64 a2 2097151)), (98, .int .i32 (wrap32 (Go.bits .and .i64 a2 2097151))), (101, .int .i64 a2), (102, .int .i64 (Go.bits .and .i64 a2 2097151)), (103, .int .i32 (wrap32 (Go.bits .and .i64 a2 2097151)))]) (fun s_ w' => (w'.cell? ⟨gb282, 0, none⟩ = some (.int .i64 t276) ∧ w'.cell? ⟨gb282, 1, none⟩ = some (.int .i64 t277) ∧ w'.cell? ⟨gb282, 2, none⟩ = some (.int .i64 t278) ∧ w'.cell? ⟨gb289, 0, none⟩ = some (.int .i64 t283) ∧ w'.cell? ⟨gb289, 1, none⟩ = some (.int .i64 t284) ∧ w'.cell? ⟨gb289, 2, none⟩ = some (.int .i64 t285)) ∧ (Kd.R (Kd.int .i32) 21 w' w.heap.size (fun k_ => some k_ ≠ (.slice Ao72 t286.length co72 : Value).ownBlock) (.slice Ao71 t279.length co71) t279) ∧ (Kd.R (Kd.int .i32) 21 w' w.heap.size (fun k_ => some k_ ≠ (.slice Ao71 t279.length co71 : Value).ownBlock) (.slice Ao72 t286.length co72) t286) ∧ (Kd.R (Kd.int .u8) 5 w' w.heap.size (fun k_ => some k_ ≠ (s_.1 : Value).ownBlock ∧ some k_ ≠ (s_.2 : Value).ownBlock) v292 t291) ∧ (Kd.R (Kd.int .u8) 5 w' w.heap.size (fun k_ => some k_ ≠ (v292 : Value).ownBlock ∧ some k_ ≠ (s_.2 : Value).ownBlock) s_.1 t294) ∧ (Kd.R (Kd.int .u8) 5 w' w.heap.size (fun k_ => some k_ ≠ (v292 : Value).ownBlock ∧ some k_ ≠ (s_.1 : Value).ownBlock) s_.2 t297) ∧ (w'.heap[gb251]? = some (.cells #[.int .i64 x252000_1, .int .i64 x252001_1, .int .i64 x252002_1] 25 (0, 0))) ∧ (w'.heap[gb282]? = some (.cells #[.int .i64 t276, .int .i64 t277, .int .i64 t278] 25 (0, 0))) ∧ (w'.heap[gb289]? = some (.cells #[.int .i64 t283, .int .i64 t284, .int .i64 t285] 25 (0, 0))) ∧ (Below w.heap.size w w')) ?_ ?_
            rotate_left
            ·
             intro hJ12_15_16_23_24
             refine join_ (σ := Value × Value × Value) 8 #[true, true, true, true, true, true, true, true, true, true, true, true, true, true, true, true, true, true, true, true, true, true, true, true, false, true, true, true, true, false, false, false, false, false, false, false] (fun s_ => [(88, .string (strOfNums t291)), (91, s_.1), (92, .string (strOfNums t294)), (99, s_.2.1), (104, s_.2.2), (93, .bool true), (94, .bool true), (95, .bool true), (96, .int .i64 a2), (97, .int .i64 (Go.bits .and .i64 a2 2097151)), (98, .int .i32 (wrap32 (Go.bits .and .i64 a2 2097151))), (101, .int .i64 a2), (102, .int .i64 (Go.bits .and .i64 a2 2097151)), (103, .int .i32 (wrap32 (Go.bits .and .i64 a2 2097151)))]) (fun s_ w' => (w'.cell? ⟨gb282, 0, none⟩ = some (.int .i64 t276) ∧ w'.cell? ⟨gb282, 1, none⟩ = some (.int .i64 t277) ∧ w'.cell? ⟨gb282, 2, none⟩ = some (.int .i64 t278) ∧ w'.cell? ⟨gb289, 0, none⟩ = some (.int .i64 t283) ∧ w'.cell? ⟨gb289, 1, none⟩ = some (.int .i64 t284) ∧ w'.cell? ⟨gb289, 2, none⟩ = some (.int .i64 t285)) ∧ (Kd.R (Kd.int .i32) 21 w' w.heap.size (fun k_ => some k_ ≠ (.slice Ao72 t286.length co72 : Value).ownBlock) (.slice Ao71 t279.length co71) t279) ∧ (Kd.R (Kd.int .i32) 21 w' w.heap.size (fun k_ => some k_ ≠ (.slice Ao71 t279.length co71 : Value).ownBlock) (.slice Ao72 t286.length co72) t286) ∧ (Kd.R (Kd.int .u8) 5 w' w.heap.size (fun k_ => some k_ ≠ (s_.1 : Value).ownBlock ∧ some k_ ≠ (s_.2.1 : Value).ownBlock ∧ some k_ ≠ (s_.2.2 : Value).ownBlock) v292 t291) ∧ (Kd.R (Kd.int .u8) 5 w' w.heap.size (fun k_ => some k_ ≠ (v292 : Value).ownBlock ∧ some k_ ≠ (s_.2.1 : Value).ownBlock ∧ some k_ ≠ (s_.2.2 : Value).ownBlock) s_.1 t294) ∧ (Kd.R (Kd.int .u8) 5 w' w.heap.size (fun k_ => some k_ ≠ (v292 : Value).ownBlock ∧ some k_ ≠ (s_.1 : Value).ownBlock ∧ some k_ ≠ (s_.2.2 : Value).ownBlock) s_.2.1 t297) ∧ (Kd.R (Kd.int .u8) 5 w' w.heap.size (fun k_ => some k_ ≠ (v292 : Value).ownBlock ∧ some k_ ≠ (s_.1 : Value).ownBlock ∧ some k_ ≠ (s_.2.1 : Value).ownBlock) s_.2.2 t300) ∧ (w'.heap[gb251]? = some (.cells #[.int .i64 x252000_1, .int .i64 x252001_1, .int .i64 x252002_1] 25 (0, 0))) ∧ (w'.heap[gb282]? = some (.cells #[.int .i64 t276, .int .i64 t277, .int .i64 t278] 25 (0, 0))) ∧ (w'.heap[gb289]? = some (.cells #[.int .i64 t283, .int .i64 t284, .int .i64 t285] 25 (0, 0))) ∧ (Below w.heap.size w w')) ?_ ?_
             rotate_left
             ·
              intro hJ12_15_16_23_28
              refine join_ (σ := Value × Value) 9 #[true, true, true, true, true, true, true, true, true, true, true, true, true, true, true, true, true, true, true, true, true, true, true, true, false, true, true, true, false, false, false, false, false, false, false, false] (fun s_ => [(88, .string (strOfNums t291)), (91, s_.1), (92, .string (strOfNums t294)), (99, s_.2), (93, .bool true), (94, .bool true), (95, .bool true), (96, .int .i64 a2), (97, .int .i64 (Go.bits .and .i64 a2 2097151)), (98, .int .i32 (wrap32 (Go.bits .and .i64 a2 2097151))), (101, .int .i64 a2), (102, .int .i64 (Go.bits .and .i64 a2 2097151)), (103, .int .i32 (wrap32 (Go.bits .and .i64 a2 2097151)))]) (fun s_ w' => (w'.cell? ⟨gb282, 0, none⟩ = some (.int .i64 t276) ∧ w'.cell? ⟨gb282, 1, none⟩ = some (.int .i64 t277) ∧ w'.cell? ⟨gb282, 2, none⟩ = some (.int .i64 t278) ∧ w'.cell? ⟨gb289, 0, none⟩ = some (.int .i64 t283) ∧ w'.cell? ⟨gb289, 1, none⟩ = some (.int .i64 t284) ∧ w'.cell? ⟨gb289, 2, none⟩ = some (.int .i64 t285)) ∧ (Kd.R (Kd.int .i32) 21 w' w.heap.size (fun k_ => some k_ ≠ (.slice Ao72 t286.length co72 : Value).ownBlock) (.slice Ao71 t279.length co71) t279) ∧ (Kd.R (Kd.int .i32) 21 w' w.heap.size (fun k_ => some k_ ≠ (.slice Ao71 t279.length co71 : Value).ownBlock) (.slice Ao72 t286.length co72) t286) ∧ (Kd.R (Kd.int .u8) 5 w' w.heap.size (fun k_ => some k_ ≠ (s_.1 : Value).ownBlock ∧ some k_ ≠ (s_.2 : Value).ownBlock) v292 t291) ∧ (Kd.R (Kd.int .u8) 5 w' w.heap.size (fun k_ => some k_ ≠ (v292 : Value).ownBlock ∧ some k_ ≠ (s_.2 : Value).ownBlock) s_.1 t294) ∧ (Kd.R (Kd.int .u8) 5 w' w.heap.size (fun k_ => some k_ ≠ (v292 : Value).ownBlock ∧ some k_ ≠ (s_.1 : Value).ownBlock) s_.2 t297) ∧ (w'.heap[gb251]? = some (.cells #[.int .i64 x252000_1, .int .i64 x252001_1, .int .i64 x252002_1] 25 (0, 0))) ∧ (w'.heap[gb282]? = some (.cells #[.int .i64 t276, .int .i64 t277, .int .i64 t278] 25 (0, 0))) ∧ (w'.heap[gb289]? = some (.cells #[.int .i64 t283, .int .i64 t284, .int .i64 t285] 25 (0, 0))) ∧ (Below w.heap.size w w')) ?_ ?_
              rotate_left
              ·
               intro hJ12_15_16_23
               refine join_ (σ := Value) 10 #[true, true, true, true, true, true, true, true, true, true, true, true, true, true, true, true, true, true, true, true, true, true, true, false, false, true, true, true, false, false, false, false, false, false, false, false] (fun s_ => [(88, .string (strOfNums t291)), (91, s_), (92, .string (strOfNums t294)), (93, .bool true), (94, .bool true), (95, .bool true), (96, .int .i64 a2), (97, .int .i64 (Go.bits .and .i64 a2 2097151)), (98, .int .i32 (wrap32 (Go.bits .and .i64 a2 2097151))), (101, .int .i64 a2), (102, .int .i64 (Go.bits .and .i64 a2 2097151)), (103, .int .i32 (wrap32 (Go.bits .and .i64 a2 2097151)))]) (fun s_ w' => (w'.cell? ⟨gb282, 0, none⟩ = some (.int .i64 t276) ∧ w'.cell? ⟨gb282, 1, none⟩ = some (.int .i64 t277) ∧ w'.cell? ⟨gb282, 2, none⟩ = some (.int .i64 t278) ∧ w'.cell? ⟨gb289, 0, none⟩ = some (.int .i64 t283) ∧ w'.cell? ⟨gb289, 1, none⟩ = some (.int .i64 t284) ∧ w'.cell? ⟨gb289, 2, none⟩ = some (.int .i64 t285)) ∧ (Kd.R (Kd.int .i32) 21 w' w.heap.size (fun k_ => some k_ ≠ (.slice Ao72 t286.length co72 : Value).ownBlock) (.slice Ao71 t279.length co71) t279) ∧ (Kd.R (Kd.int .i32) 21 w' w.heap.size (fun k_ => some k_ ≠ (.slice Ao71 t279.length co71 : Value).ownBlock) (.slice Ao72 t286.length co72) t286) ∧ (Kd.R (Kd.int .u8) 5 w' w.heap.size (fun k_ => some k_ ≠ (s_ : Value).ownBlock) v292 t291) ∧ (Kd.R (Kd.int .u8) 5 w' w.heap.size (fun k_ => some k_ ≠ (v292 : Value).ownBlock) s_ t294) ∧ (w'.heap[gb251]? = some (.cells #[.int .i64 x252000_1, .int .i64 x252001_1, .int .i64 x252002_1] 25 (0, 0))) ∧ (w'.heap[gb282]? = some (.cells #[.int .i64 t276, .int .i64 t277, .int .i64 t278] 25 (0, 0))) ∧ (w'.heap[gb289]? = some (.cells #[.int .i64 t283, .int .i64 t284, .int .i64 t285] 25 (0, 0))) ∧ (Below w.heap.size w w')) ?_ ?_
               rotate_left
               ·
                intro hJ12_15_16
                refine join_ (σ := Value) 20 #[true, true, true, true, true, true, true, true, true, true, true, true, true, true, true, true, false, false, false, false, false, false, false, false, false, false, false, false, false, false, false, false, false, false, false, false] (fun s_ => [(88, .string (strOfNums t291)), (91, s_)]) (fun s_ w' => (w'.cell? ⟨gb282, 0, none⟩ = some (.int .i64 t276) ∧ w'.cell? ⟨gb282, 1, none⟩ = some (.int .i64 t277) ∧ w'.cell? ⟨gb282, 2, none⟩ = some (.int .i64 t278) ∧ w'.cell? ⟨gb289, 0, none⟩ = some (.int .i64 t283) ∧ w'.cell? ⟨gb289, 1, none⟩ = some (.int .i64 t284) ∧ w'.cell? ⟨gb289, 2, none⟩ = some (.int .i64 t285)) ∧ (Kd.R (Kd.int .i32) 21 w' w.heap.size (fun k_ => some k_ ≠ (.slice Ao72 t286.length co72 : Value).ownBlock) (.slice Ao71 t279.length co71) t279) ∧ (Kd.R (Kd.int .i32) 21 w' w.heap.size (fun k_ => some k_ ≠ (.slice Ao71 t279.length co71 : Value).ownBlock) (.slice Ao72 t286.length co72) t286) ∧ (Kd.R (Kd.int .u8) 5 w' w.heap.size (fun k_ => some k_ ≠ (s_ : Value).ownBlock) v292 t291) ∧ (Kd.R (Kd.int .u8) 5 w' w.heap.size (fun k_ => some k_ ≠ (v292 : Value).ownBlock) s_ t294) ∧ (w'.heap[gb251]? = some (.cells #[.int .i64 x252000_1, .int .i64 x252001_1, .int .i64 x252002_1] 25 (0, 0))) ∧ (w'.heap[gb282]? = some (.cells #[.int .i64 t276, .int .i64 t277, .int .i64 t278] 25 (0, 0))) ∧ (w'.heap[gb289]? = some (.cells #[.int .i64 t283, .int .i64 t284, .int .i64 t285] 25 (0, 0))) ∧ (Below w.heap.size w w')) ?_ ?_
                rotate_left
                ·
                 intro hJ12_15
                 refine join_ (σ := Value) 20 #[true, true, true, true, true, true, true, true, true, true, true, true, false, true, true, true, true, false, false, false, false, false, false, false, false, false, false, false, false, false, false, false, false, false, false, false] (fun s_ => [(91, s_), (92, .string (strOfNums t294))]) (fun s_ w' => (w'.cell? ⟨gb282, 0, none⟩ = some (.int .i64 t276) ∧ w'.cell? ⟨gb282, 1, none⟩ = some (.int .i64 t277) ∧ w'.cell? ⟨gb282, 2, none⟩ = some (.int .i64 t278) ∧ w'.cell? ⟨gb289, 0, none⟩ = some (.int .i64 t283) ∧ w'.cell? ⟨gb289, 1, none⟩ = some (.int .i64 t284) ∧ w'.cell? ⟨gb289, 2, none⟩ = some (.int .i64 t285)) ∧ (Kd.R (Kd.int .i32) 21 w' w.heap.size (fun k_ => some k_ ≠ (.slice Ao72 t286.length co72 : Value).ownBlock) (.slice Ao71 t279.length co71) t279) ∧ (Kd.R (Kd.int .i32) 21 w' w.heap.size (fun k_ => some k_ ≠ (.slice Ao71 t279.length co71 : Value).ownBlock) (.slice Ao72 t286.length co72) t286) ∧ (Kd.R (Kd.int .u8) 5 w' w.heap.size (fun k_ => some k_ ≠ (s_ : Value).ownBlock) v292 t291) ∧ (Kd.R (Kd.int .u8) 5 w' w.heap.size (fun k_ => some k_ ≠ (v292 : Value).ownBlock) s_ t294) ∧ (w'.heap[gb251]? = some (.cells #[.int .i64 x252000_1, .int .i64 x252001_1, .int .i64 x252002_1] 25 (0, 0))) ∧ (w'.heap[gb282]? = some (.cells #[.int .i64 t276, .int .i64 t277, .int .i64 t278] 25 (0, 0))) ∧ (w'.heap[gb289]? = some (.cells #[.int .i64 t283, .int .i64 t284, .int .i64 t285] 25 (0, 0))) ∧ (Below w.heap.size w w')) ?_ ?_
                 rotate_left
                 ·
                  intro hJ15_16
                  refine join_ (σ := Unit) 21 #[true, true, true, true, true, true, true, true, true, true, true, true, true, true, true, false, false, false, false, false, false, false, false, false, false, false, false, false, false, false, false, false, false, false, false, false] (fun s_ => [(88, .string (strOfNums t291))]) (fun s_ w' => (w'.cell? ⟨gb282, 0, none⟩ = some (.int .i64 t276) ∧ w'.cell? ⟨gb282, 1, none⟩ = some (.int .i64 t277) ∧ w'.cell? ⟨gb282, 2, none⟩ = some (.int .i64 t278) ∧ w'.cell? ⟨gb289, 0, none⟩ = some (.int .i64 t283) ∧ w'.cell? ⟨gb289, 1, none⟩ = some (.int .i64 t284) ∧ w'.cell? ⟨gb289, 2, none⟩ = some (.int .i64 t285)) ∧ (Kd.R (Kd.int .i32) 21 w' w.heap.size (fun k_ => some k_ ≠ (.slice Ao72 t286.length co72 : Value).ownBlock) (.slice Ao71 t279.length co71) t279) ∧ (Kd.R (Kd.int .i32) 21 w' w.heap.size (fun k_ => some k_ ≠ (.slice Ao71 t279.length co71 : Value).ownBlock) (.slice Ao72 t286.length co72) t286) ∧ (Kd.R (Kd.int .u8) 5 w' w.heap.size (fun _ => True) v292 t291) ∧ (w'.heap[gb251]? = some (.cells #[.int .i64 x252000_1, .int .i64 x252001_1, .int .i64 x252002_1] 25 (0, 0))) ∧ (w'.heap[gb282]? = some (.cells #[.int .i64 t276, .int .i64 t277, .int .i64 t278] 25 (0, 0))) ∧ (w'.heap[gb289]? = some (.cells #[.int .i64 t283, .int .i64 t284, .int .i64 t285] 25 (0, 0))) ∧ (Below w.heap.size w w')) ?_ ?_
                  rotate_left
                  ·
                   intro hJ12
                   refine join_ (σ := Value) 21 #[true, true, true, true, true, true, true, true, true, true, true, true, false, true, true, true, false, false, false, false, false, false, false, false, false, false, false, false, false, false, false, false, false, false, false, false] (fun s_ => [(91, s_)]) (fun s_ w' => (w'.cell? ⟨gb282, 0, none⟩ = some (.int .i64 t276) ∧ w'.cell? ⟨gb282, 1, none⟩ = some (.int .i64 t277) ∧ w'.cell? ⟨gb282, 2, none⟩ = some (.int .i64 t278) ∧ w'.cell? ⟨gb289, 0, none⟩ = some (.int .i64 t283) ∧ w'.cell? ⟨gb289, 1, none⟩ = some (.int .i64 t284) ∧ w'.cell? ⟨gb289, 2, none⟩ = some (.int .i64 t285)) ∧ (Kd.R (Kd.int .i32) 21 w' w.heap.size (fun k_ => some k_ ≠ (.slice Ao72 t286.length co72 : Value).ownBlock) (.slice Ao71 t279.length co71) t279) ∧ (Kd.R (Kd.int .i32) 21 w' w.heap.size (fun k_ => some k_ ≠ (.slice Ao71 t279.length co71 : Value).ownBlock) (.slice Ao72 t286.length co72) t286) ∧ (Kd.R (Kd.int .u8) 5 w' w.heap.size (fun k_ => some k_ ≠ (s_ : Value).ownBlock) v292 t291) ∧ (Kd.R (Kd.int .u8) 5 w' w.heap.size (fun k_ => some k_ ≠ (v292 : Value).ownBlock) s_ t294) ∧ (w'.heap[gb251]? = some (.cells #[.int .i64 x252000_1, .int .i64 x252001_1, .int .i64 x252002_1] 25 (0, 0))) ∧ (w'.heap[gb282]? = some (.cells #[.int .i64 t276, .int .i64 t277, .int .i64 t278] 25 (0, 0))) ∧ (w'.heap[gb289]? = some (.cells #[.int .i64 t283, .int .i64 t284, .int .i64 t285] 25 (0, 0))) ∧ (Below w.heap.size w w')) ?_ ?_
                   rotate_left
                   ·
                    intro hJ15
                    refine two_ (i := 12) (j := 15) (Ni := some 88) (Nj := some 91) #[true, true, true, true, true, true, true, true, true, true, true, true, true, true, true, false, false, false, false, false, false, false, false, false, false, false, false, false, false, false, false, false, false, false, false, false] #[true, true, true, true, true, true, true, true, true, true, true, true, false, true, true, true, false, false, false, false, false, false, false, false, false, false, false, false, false, false, false, false, false, false, false, false] rfl rfl rfl rfl (two_of HT_.out (by kernel_rfl)) (by decide) (by decide) (fun K hK => ?_) (fun K hK => ?_)
                    ·
                     skip
                     have hcv76 := own_string (P := Try.prog) Try.underlying32 Try.underlying5 Try.underlying9 (Kd.own_of_R HO293.out)
                     refine value_ (w1 := ?_) (v := ?_) (by rfl) rfl ?_ ?_
                     rotate_left 2
                     ·
                      go_simp
                      constructor
                      ·
                       rfl
                      ·
                       rfl
                     clear hcv76
                     refine hK.out _ _ ⟨(blk_cell BK282.out 0).trans rfl, (blk_cell BK282.out 1).trans rfl, (blk_cell BK282.out 2).trans rfl, (blk_cell BK289.out 0).trans rfl, (blk_cell BK289.out 1).trans rfl, (blk_cell BK289.out 2).trans rfl⟩ (fun hHeld => ?_)
                     clear hK K
                     refine norm_ (a' := ?_) ?_ ?_
                     rotate_left
                     ·
                      show Act.put _ (some 88) _ = _
                      simp only [Act.put, List.setIfInBounds_toArray, List.set_cons_zero, List.set_cons_succ, i64_w, i32_w]
                      rfl
                     exact norm_ (by first | (simp only [putAll, Act.put, List.setIfInBounds_toArray, List.set_cons_zero, List.set_cons_succ]; done) | (simp only [putAll, Act.put, List.setIfInBounds_toArray, List.set_cons_zero, List.set_cons_succ]; rfl)) (hJ12 () _ ⟨hHeld, (by (with_reducible repeat (first | apply Kd.R_alloc | apply Kd.R_drewN | apply Kd.R_drew)); exact HO281.out), (by (with_reducible repeat (first | apply Kd.R_alloc | apply Kd.R_drewN | apply Kd.R_drew)); exact HO288.out), (by (with_reducible repeat (first | apply Kd.R_alloc | apply Kd.R_drewN | apply Kd.R_drew)); exact HO293.out), (by (with_reducible repeat (first | refine blk_drewN ?_ _ | refine blk_drew ?_ | refine blk_alloc ?_ _)); exact BK251.out), (by (with_reducible repeat (first | refine blk_drewN ?_ _ | refine blk_drew ?_ | refine blk_alloc ?_ _)); exact BK282.out), (by (with_reducible repeat (first | refine blk_drewN ?_ _ | refine blk_drew ?_ | refine blk_alloc ?_ _)); exact BK289.out), (by repeat (first | (with_reducible first | exact HB.out | apply below_alloc | apply pw_below_drewN | apply below_drew1 | refine below_set ?_ GE251.out | refine below_set ?_ GE282.out | refine below_set ?_ GE289.out) | exact HB.out))⟩)
                    ·
                     skip
                     refine goes_ Try.func14 (by kernel_rfl) rfl #[.int .i32 (wrap32 (a2))] (by rfl) rfl rfl (by (try simp only [List.map_toArray, List.map_cons, List.map_nil]); first | done | rfl | (simp only [List.length_drop, List.length_take]; rfl)) ?_
                     with_reducible refine (polyptychref1_Put.calls (wrap32 (a2)) t294 _ A54.out).mono ?_
                     rintro e w76 ⟨v295, rfl, ho0, hb⟩
                     refine ⟨_, rfl, ?_⟩
                     have n0_ := Aside0.mk (Kd.R_below (by (with_reducible repeat (first | apply Kd.R_alloc | apply Kd.R_drewN | apply Kd.R_drew)); exact HO281.out) hb)
                     have n1_ := Aside0.mk (Kd.R_below (by (with_reducible repeat (first | apply Kd.R_alloc | apply Kd.R_drewN | apply Kd.R_drew)); exact HO288.out) hb)
                     have n2_ := Aside0.mk (Kd.R_elder' (by (with_reducible repeat (first | apply Kd.R_alloc | apply Kd.R_drewN | apply Kd.R_drew)); exact HO293.out) (Kd.R_base ho0) hb)
                     have n3_ := Aside0.mk (Kd.R_lower (Kd.R_new' ho0 (Kd.R_lt (by (with_reducible repeat (first | apply Kd.R_alloc | apply Kd.R_drewN | apply Kd.R_drew)); exact HO293.out))) (below_size (by repeat (first | (with_reducible first | exact HB.out | apply below_alloc | apply pw_below_drewN | apply below_drew1 | refine below_set ?_ GE251.out | refine below_set ?_ GE282.out | refine below_set ?_ GE289.out) | exact HB.out))))
                     have n4_ := Aside0.mk (blk_below (g := gb251) (o := .cells #[.int .i64 x252000_1, .int .i64 x252001_1, .int .i64 x252002_1] 25 (0, 0)) (by (with_reducible repeat (first | refine blk_drewN ?_ _ | refine blk_drew ?_ | refine blk_alloc ?_ _)); exact BK251.out) hb)
                     have n5_ := Aside0.mk (blk_below (g := gb282) (o := .cells #[.int .i64 t276, .int .i64 t277, .int .i64 t278] 25 (0, 0)) (by (with_reducible repeat (first | refine blk_drewN ?_ _ | refine blk_drew ?_ | refine blk_alloc ?_ _)); exact BK282.out) hb)
                     have n6_ := Aside0.mk (blk_below (g := gb289) (o := .cells #[.int .i64 t283, .int .i64 t284, .int .i64 t285] 25 (0, 0)) (by (with_reducible repeat (first | refine blk_drewN ?_ _ | refine blk_drew ?_ | refine blk_alloc ?_ _)); exact BK289.out) hb)
                     have n7_ := Aside0.mk (below_step (by repeat (first | (with_reducible first | exact HB.out | apply below_alloc | apply pw_below_drewN | apply below_drew1 | refine below_set ?_ GE251.out | refine below_set ?_ GE282.out | refine below_set ?_ GE289.out) | exact HB.out)) hb)
                     clear HO281
                     clear HO288
                     clear HO293
                     clear BK251
                     clear BK282
                     clear BK289
                     clear HB
                     have HO281 := n0_
                     have HO288 := n1_
                     have HO293 := n2_
                     have HO296 := n3_
                     have BK251 := n4_
                     have BK282 := n5_
                     have BK289 := n6_
                     have HB := n7_
                     clear n0_ n1_ n2_ n3_ n4_ n5_ n6_ n7_
                     (try clear hb)
                     (try clear hb2)
                     (try clear hk)
                     (try clear hi)
                     (try clear ho0)
                     refine hK.out _ _ ⟨(blk_cell BK282.out 0).trans rfl, (blk_cell BK282.out 1).trans rfl, (blk_cell BK282.out 2).trans rfl, (blk_cell BK289.out 0).trans rfl, (blk_cell BK289.out 1).trans rfl, (blk_cell BK289.out 2).trans rfl⟩ (fun hHeld => ?_)
                     clear hK K
                     refine norm_ (a' := ?_) ?_ ?_
                     rotate_left
                     ·
                      show Act.put _ (some 91) _ = _
                      simp only [Act.put, List.setIfInBounds_toArray, List.set_cons_zero, List.set_cons_succ, i64_w, i32_w]
                      rfl
                     exact norm_ (by first | (simp only [putAll, Act.put, List.setIfInBounds_toArray, List.set_cons_zero, List.set_cons_succ]; done) | (simp only [putAll, Act.put, List.setIfInBounds_toArray, List.set_cons_zero, List.set_cons_succ]; rfl)) (hJ15 (v295) _ ⟨hHeld, (by (with_reducible repeat (first | apply Kd.R_alloc | apply Kd.R_drewN | apply Kd.R_drew)); exact HO281.out), (by (with_reducible repeat (first | apply Kd.R_alloc | apply Kd.R_drewN | apply Kd.R_drew)); exact HO288.out), (by (with_reducible repeat (first | apply Kd.R_alloc | apply Kd.R_drewN | apply Kd.R_drew)); exact Kd.R_mono HO293.out (fun _ hk => hk.2)), (by (with_reducible repeat (first | apply Kd.R_alloc | apply Kd.R_drewN | apply Kd.R_drew)); exact Kd.R_mono HO296.out (fun _ hk => hk.2)), (by (with_reducible repeat (first | refine blk_drewN ?_ _ | refine blk_drew ?_ | refine blk_alloc ?_ _)); exact BK251.out), (by (with_reducible repeat (first | refine blk_drewN ?_ _ | refine blk_drew ?_ | refine blk_alloc ?_ _)); exact BK282.out), (by (with_reducible repeat (first | refine blk_drewN ?_ _ | refine blk_drew ?_ | refine blk_alloc ?_ _)); exact BK289.out), (by repeat (first | (with_reducible first | exact HB.out | apply below_alloc | apply pw_below_drewN | apply below_drew1 | refine below_set ?_ GE251.out | refine below_set ?_ GE282.out | refine below_set ?_ GE289.out) | exact HB.out))⟩)
                   ·
                    skip
                    rintro v295 w77 ⟨hS_, h0_, h1_, h2_, h3_, h4_, h5_, h6_, h7_⟩
                    have n0_ : Aside0 (Kd.R (Kd.int .i32) 21 w77 w.heap.size (fun k_ => some k_ ≠ (.slice Ao72 t286.length co72 : Value).ownBlock) (.slice Ao71 t279.length co71) t279) := ⟨h0_⟩
                    have n1_ : Aside0 (Kd.R (Kd.int .i32) 21 w77 w.heap.size (fun k_ => some k_ ≠ (.slice Ao71 t279.length co71 : Value).ownBlock) (.slice Ao72 t286.length co72) t286) := ⟨h1_⟩
                    have n2_ : Aside0 (Kd.R (Kd.int .u8) 5 w77 w.heap.size (fun k_ => some k_ ≠ (v295 : Value).ownBlock) v292 t291) := ⟨h2_⟩
                    have n3_ : Aside0 (Kd.R (Kd.int .u8) 5 w77 w.heap.size (fun k_ => some k_ ≠ (v292 : Value).ownBlock) v295 t294) := ⟨h3_⟩
                    have n4_ : Aside0 (w77.heap[gb251]? = some (.cells #[.int .i64 x252000_1, .int .i64 x252001_1, .int .i64 x252002_1] 25 (0, 0))) := ⟨h4_⟩
                    have n5_ : Aside0 (w77.heap[gb282]? = some (.cells #[.int .i64 t276, .int .i64 t277, .int .i64 t278] 25 (0, 0))) := ⟨h5_⟩
                    have n6_ : Aside0 (w77.heap[gb289]? = some (.cells #[.int .i64 t283, .int .i64 t284, .int .i64 t285] 25 (0, 0))) := ⟨h6_⟩
                    have n7_ : Aside0 (Below w.heap.size w w77) := ⟨h7_⟩
                    clear HO281
                    clear HO288
                    clear BK251
                    clear BK282
                    clear BK289
                    clear HB
                    clear h0_ h1_ h2_ h3_ h4_ h5_ h6_ h7_
                    have HO281 := n0_
                    have HO288 := n1_
                    have HO293 := n2_
                    have HO296 := n3_
                    have BK251 := n4_
                    have BK282 := n5_
                    have BK289 := n6_
                    have HB := n7_
                    clear n0_ n1_ n2_ n3_ n4_ n5_ n6_ n7_
                    have hHeld : w77.cell? ⟨gb282, 0, none⟩ = some (.int .i64 t276) ∧ w77.cell? ⟨gb282, 1, none⟩ = some (.int .i64 t277) ∧ w77.cell? ⟨gb282, 2, none⟩ = some (.int .i64 t278) ∧ w77.cell? ⟨gb289, 0, none⟩ = some (.int .i64 t283) ∧ w77.cell? ⟨gb289, 1, none⟩ = some (.int .i64 t284) ∧ w77.cell? ⟨gb289, 2, none⟩ = some (.int .i64 t285) := hS_
                    refine norm_ (a' := ?_) ?_ ?_
                    rotate_left
                    ·
                     simp only [putAll, Act.put, List.setIfInBounds_toArray, List.set_cons_zero, List.set_cons_succ]
                     rfl
                    refine two_ (i := 12) (j := 16) (Ni := some 88) (Nj := some 92) #[true, true, true, true, true, true, true, true, true, true, true, true, true, true, true, true, false, false, false, false, false, false, false, false, false, false, false, false, false, false, false, false, false, false, false, false] #[true, true, true, true, true, true, true, true, true, true, true, true, false, true, true, true, true, false, false, false, false, false, false, false, false, false, false, false, false, false, false, false, false, false, false, false] rfl rfl rfl rfl (two_of HT_.out (by kernel_rfl)) (by decide) (by decide) (fun K hK => ?_) (fun K hK => ?_)
                    ·
                     skip
                     have hcv78 := own_string (P := Try.prog) Try.underlying32 Try.underlying5 Try.underlying9 (Kd.own_of_R HO293.out)
                     refine value_ (w1 := ?_) (v := ?_) (by rfl) rfl ?_ ?_
                     rotate_left 2
                     ·
                      go_simp
                      constructor
                      ·
                       rfl
                      ·
                       rfl
                     clear hcv78
                     refine hK.out _ _ ⟨(blk_cell BK282.out 0).trans rfl, (blk_cell BK282.out 1).trans rfl, (blk_cell BK282.out 2).trans rfl, (blk_cell BK289.out 0).trans rfl, (blk_cell BK289.out 1).trans rfl, (blk_cell BK289.out 2).trans rfl⟩ (fun hHeld => ?_)
                     clear hK K
                     refine norm_ (a' := ?_) ?_ ?_
                     rotate_left
                     ·
                      show Act.put _ (some 88) _ = _
                      simp only [Act.put, List.setIfInBounds_toArray, List.set_cons_zero, List.set_cons_succ, i64_w, i32_w]
                      rfl
                     exact norm_ (by first | (simp only [putAll, Act.put, List.setIfInBounds_toArray, List.set_cons_zero, List.set_cons_succ]; done) | (simp only [putAll, Act.put, List.setIfInBounds_toArray, List.set_cons_zero, List.set_cons_succ]; rfl)) (hJ12_15 (v295) _ ⟨hHeld, (by (with_reducible repeat (first | apply Kd.R_alloc | apply Kd.R_drewN | apply Kd.R_drew)); exact HO281.out), (by (with_reducible repeat (first | apply Kd.R_alloc | apply Kd.R_drewN | apply Kd.R_drew)); exact HO288.out), (by (with_reducible repeat (first | apply Kd.R_alloc | apply Kd.R_drewN | apply Kd.R_drew)); exact HO293.out), (by (with_reducible repeat (first | apply Kd.R_alloc | apply Kd.R_drewN | apply Kd.R_drew)); exact HO296.out), (by (with_reducible repeat (first | refine blk_drewN ?_ _ | refine blk_drew ?_ | refine blk_alloc ?_ _)); exact BK251.out), (by (with_reducible repeat (first | refine blk_drewN ?_ _ | refine blk_drew ?_ | refine blk_alloc ?_ _)); exact BK282.out), (by (with_reducible repeat (first | refine blk_drewN ?_ _ | refine blk_drew ?_ | refine blk_alloc ?_ _)); exact BK289.out), (by repeat (first | (with_reducible first | exact HB.out | apply below_alloc | apply pw_below_drewN | apply below_drew1 | refine below_set ?_ GE251.out | refine below_set ?_ GE282.out | refine below_set ?_ GE289.out) | exact HB.out))⟩)
                    ·
                     skip
                     have hcv78 := own_string (P := Try.prog) Try.underlying32 Try.underlying5 Try.underlying9 (Kd.own_of_R HO296.out)
                     refine value_ (w1 := ?_) (v := ?_) (by rfl) rfl ?_ ?_
                     rotate_left 2
                     ·
                      go_simp
                      constructor
                      ·
                       rfl
                      ·
                       rfl
                     clear hcv78
                     refine hK.out _ _ ⟨(blk_cell BK282.out 0).trans rfl, (blk_cell BK282.out 1).trans rfl, (blk_cell BK282.out 2).trans rfl, (blk_cell BK289.out 0).trans rfl, (blk_cell BK289.out 1).trans rfl, (blk_cell BK289.out 2).trans rfl⟩ (fun hHeld => ?_)
                     clear hK K
                     refine norm_ (a' := ?_) ?_ ?_
                     rotate_left
                     ·
                      show Act.put _ (some 92) _ = _
                      simp only [Act.put, List.setIfInBounds_toArray, List.set_cons_zero, List.set_cons_succ, i64_w, i32_w]
                      rfl
                     exact norm_ (by first | (simp only [putAll, Act.put, List.setIfInBounds_toArray, List.set_cons_zero, List.set_cons_succ]; done) | (simp only [putAll, Act.put, List.setIfInBounds_toArray, List.set_cons_zero, List.set_cons_succ]; rfl)) (hJ15_16 (v295) _ ⟨hHeld, (by (with_reducible repeat (first | apply Kd.R_alloc | apply Kd.R_drewN | apply Kd.R_drew)); exact HO281.out), (by (with_reducible repeat (first | apply Kd.R_alloc | apply Kd.R_drewN | apply Kd.R_drew)); exact HO288.out), (by (with_reducible repeat (first | apply Kd.R_alloc | apply Kd.R_drewN | apply Kd.R_drew)); exact HO293.out), (by (with_reducible repeat (first | apply Kd.R_alloc | apply Kd.R_drewN | apply Kd.R_drew)); exact HO296.out), (by (with_reducible repeat (first | refine blk_drewN ?_ _ | refine blk_drew ?_ | refine blk_alloc ?_ _)); exact BK251.out), (by (with_reducible repeat (first | refine blk_drewN ?_ _ | refine blk_drew ?_ | refine blk_alloc ?_ _)); exact BK282.out), (by (with_reducible repeat (first | refine blk_drewN ?_ _ | refine blk_drew ?_ | refine blk_alloc ?_ _)); exact BK289.out), (by repeat (first | (with_reducible first | exact HB.out | apply below_alloc | apply pw_below_drewN | apply below_drew1 | refine below_set ?_ GE251.out | refine below_set ?_ GE282.out | refine below_set ?_ GE289.out) | exact HB.out))⟩)
                  ·
                   skip
                   rintro _ w77 ⟨hS_, h0_, h1_, h2_, h3_, h4_, h5_, h6_⟩
                   have n0_ : Aside0 (Kd.R (Kd.int .i32) 21 w77 w.heap.size (fun k_ => some k_ ≠ (.slice Ao72 t286.length co72 : Value).ownBlock) (.slice Ao71 t279.length co71) t279) := ⟨h0_⟩
                   have n1_ : Aside0 (Kd.R (Kd.int .i32) 21 w77 w.heap.size (fun k_ => some k_ ≠ (.slice Ao71 t279.length co71 : Value).ownBlock) (.slice Ao72 t286.length co72) t286) := ⟨h1_⟩
                   have n2_ : Aside0 (Kd.R (Kd.int .u8) 5 w77 w.heap.size (fun _ => True) v292 t291) := ⟨h2_⟩
                   have n3_ : Aside0 (w77.heap[gb251]? = some (.cells #[.int .i64 x252000_1, .int .i64 x252001_1, .int .i64 x252002_1] 25 (0, 0))) := ⟨h3_⟩
                   have n4_ : Aside0 (w77.heap[gb282]? = some (.cells #[.int .i64 t276, .int .i64 t277, .int .i64 t278] 25 (0, 0))) := ⟨h4_⟩
                   have n5_ : Aside0 (w77.heap[gb289]? = some (.cells #[.int .i64 t283, .int .i64 t284, .int .i64 t285] 25 (0, 0))) := ⟨h5_⟩
                   have n6_ : Aside0 (Below w.heap.size w w77) := ⟨h6_⟩
                   clear HO281
                   clear HO288
                   clear BK251
                   clear BK282
                   clear BK289
                   clear HB
                   clear h0_ h1_ h2_ h3_ h4_ h5_ h6_
                   have HO281 := n0_
                   have HO288 := n1_
                   have HO293 := n2_
                   have BK251 := n3_
                   have BK282 := n4_
                   have BK289 := n5_
                   have HB := n6_
                   clear n0_ n1_ n2_ n3_ n4_ n5_ n6_
                   have hHeld : w77.cell? ⟨gb282, 0, none⟩ = some (.int .i64 t276) ∧ w77.cell? ⟨gb282, 1, none⟩ = some (.int .i64 t277) ∧ w77.cell? ⟨gb282, 2, none⟩ = some (.int .i64 t278) ∧ w77.cell? ⟨gb289, 0, none⟩ = some (.int .i64 t283) ∧ w77.cell? ⟨gb289, 1, none⟩ = some (.int .i64 t284) ∧ w77.cell? ⟨gb289, 2, none⟩ = some (.int .i64 t285) := hS_
                   refine norm_ (a' := ?_) ?_ ?_
                   rotate_left
                   ·
                    simp only [putAll, Act.put, List.setIfInBounds_toArray, List.set_cons_zero, List.set_cons_succ]
                    rfl
                   refine one_ (i := 15) (N := some 91) #[true, true, true, true, true, true, true, true, true, true, true, true, true, true, true, true, false, false, false, false, false, false, false, false, false, false, false, false, false, false, false, false, false, false, false, false] rfl rfl (one_of HT_.out (by kernel_rfl)) (by decide) (fun K hK => ?_)
                   refine goes_ Try.func14 (by kernel_rfl) rfl #[.int .i32 (wrap32 (a2))] (by rfl) rfl rfl (by (try simp only [List.map_toArray, List.map_cons, List.map_nil]); first | done | rfl | (simp only [List.length_drop, List.length_take]; rfl)) ?_
                   with_reducible refine (polyptychref1_Put.calls (wrap32 (a2)) t294 _ A54.out).mono ?_
                   rintro e w78 ⟨v295, rfl, ho0, hb⟩
                   refine ⟨_, rfl, ?_⟩
                   have n0_ := Aside0.mk (Kd.R_below (by (with_reducible repeat (first | apply Kd.R_alloc | apply Kd.R_drewN | apply Kd.R_drew)); exact HO281.out) hb)
                   have n1_ := Aside0.mk (Kd.R_below (by (with_reducible repeat (first | apply Kd.R_alloc | apply Kd.R_drewN | apply Kd.R_drew)); exact HO288.out) hb)
                   have n2_ := Aside0.mk (Kd.R_elder' (by (with_reducible repeat (first | apply Kd.R_alloc | apply Kd.R_drewN | apply Kd.R_drew)); exact HO293.out) (Kd.R_base ho0) hb)
                   have n3_ := Aside0.mk (Kd.R_lower (Kd.R_new' ho0 (Kd.R_lt (by (with_reducible repeat (first | apply Kd.R_alloc | apply Kd.R_drewN | apply Kd.R_drew)); exact HO293.out))) (below_size (by repeat (first | (with_reducible first | exact HB.out | apply below_alloc | apply pw_below_drewN | apply below_drew1 | refine below_set ?_ GE251.out | refine below_set ?_ GE282.out | refine below_set ?_ GE289.out) | exact HB.out))))
                   have n4_ := Aside0.mk (blk_below (g := gb251) (o := .cells #[.int .i64 x252000_1, .int .i64 x252001_1, .int .i64 x252002_1] 25 (0, 0)) (by (with_reducible repeat (first | refine blk_drewN ?_ _ | refine blk_drew ?_ | refine blk_alloc ?_ _)); exact BK251.out) hb)
                   have n5_ := Aside0.mk (blk_below (g := gb282) (o := .cells #[.int .i64 t276, .int .i64 t277, .int .i64 t278] 25 (0, 0)) (by (with_reducible repeat (first | refine blk_drewN ?_ _ | refine blk_drew ?_ | refine blk_alloc ?_ _)); exact BK282.out) hb)
                   have n6_ := Aside0.mk (blk_below (g := gb289) (o := .cells #[.int .i64 t283, .int .i64 t284, .int .i64 t285] 25 (0, 0)) (by (with_reducible repeat (first | refine blk_drewN ?_ _ | refine blk_drew ?_ | refine blk_alloc ?_ _)); exact BK289.out) hb)
                   have n7_ := Aside0.mk (below_step (by repeat (first | (with_reducible first | exact HB.out | apply below_alloc | apply pw_below_drewN | apply below_drew1 | refine below_set ?_ GE251.out | refine below_set ?_ GE282.out | refine below_set ?_ GE289.out) | exact HB.out)) hb)
                   clear HO281
                   clear HO288
                   clear HO293
                   clear BK251
                   clear BK282
                   clear BK289
                   clear HB
                   have HO281 := n0_
                   have HO288 := n1_
                   have HO293 := n2_
                   have HO296 := n3_
                   have BK251 := n4_
                   have BK282 := n5_
                   have BK289 := n6_
                   have HB := n7_
                   clear n0_ n1_ n2_ n3_ n4_ n5_ n6_ n7_
                   (try clear hb)
                   (try clear hb2)
                   (try clear hk)
                   (try clear hi)
                   (try clear ho0)
                   refine hK.out _ _ ⟨(blk_cell BK282.out 0).trans rfl, (blk_cell BK282.out 1).trans rfl, (blk_cell BK282.out 2).trans rfl, (blk_cell BK289.out 0).trans rfl, (blk_cell BK289.out 1).trans rfl, (blk_cell BK289.out 2).trans rfl⟩ (fun hHeld => ?_)
                   clear hK K
                   refine norm_ (a' := ?_) ?_ ?_
                   rotate_left
                   ·
                    show Act.put _ (some 91) _ = _
                    simp only [Act.put, List.setIfInBounds_toArray, List.set_cons_zero, List.set_cons_succ, i64_w, i32_w]
                    rfl
                   exact norm_ (by first | (simp only [putAll, Act.put, List.setIfInBounds_toArray, List.set_cons_zero, List.set_cons_succ]; done) | (simp only [putAll, Act.put, List.setIfInBounds_toArray, List.set_cons_zero, List.set_cons_succ]; rfl)) (hJ12_15 (v295) _ ⟨hHeld, (by (with_reducible repeat (first | apply Kd.R_alloc | apply Kd.R_drewN | apply Kd.R_drew)); exact HO281.out), (by (with_reducible repeat (first | apply Kd.R_alloc | apply Kd.R_drewN | apply Kd.R_drew)); exact HO288.out), (by (with_reducible repeat (first | apply Kd.R_alloc | apply Kd.R_drewN | apply Kd.R_drew)); exact Kd.R_mono HO293.out (fun _ hk => hk.2)), (by (with_reducible repeat (first | apply Kd.R_alloc | apply Kd.R_drewN | apply Kd.R_drew)); exact Kd.R_mono HO296.out (fun _ hk => hk.2)), (by (with_reducible repeat (first | refine blk_drewN ?_ _ | refine blk_drew ?_ | refine blk_alloc ?_ _)); exact BK251.out), (by (with_reducible repeat (first | refine blk_drewN ?_ _ | refine blk_drew ?_ | refine blk_alloc ?_ _)); exact BK282.out), (by (with_reducible repeat (first | refine blk_drewN ?_ _ | refine blk_drew ?_ | refine blk_alloc ?_ _)); exact BK289.out), (by repeat (first | (with_reducible first | exact HB.out | apply below_alloc | apply pw_below_drewN | apply below_drew1 | refine below_set ?_ GE251.out | refine below_set ?_ GE282.out | refine below_set ?_ GE289.out) | exact HB.out))⟩)
                 ·
                  skip
                  rintro v295 w78 ⟨hS_, h0_, h1_, h2_, h3_, h4_, h5_, h6_, h7_⟩
                  have n0_ : Aside0 (Kd.R (Kd.int .i32) 21 w78 w.heap.size (fun k_ => some k_ ≠ (.slice Ao72 t286.length co72 : Value).ownBlock) (.slice Ao71 t279.length co71) t279) := ⟨h0_⟩
                  have n1_ : Aside0 (Kd.R (Kd.int .i32) 21 w78 w.heap.size (fun k_ => some k_ ≠ (.slice Ao71 t279.length co71 : Value).ownBlock) (.slice Ao72 t286.length co72) t286) := ⟨h1_⟩
                  have n2_ : Aside0 (Kd.R (Kd.int .u8) 5 w78 w.heap.size (fun k_ => some k_ ≠ (v295 : Value).ownBlock) v292 t291) := ⟨h2_⟩
                  have n3_ : Aside0 (Kd.R (Kd.int .u8) 5 w78 w.heap.size (fun k_ => some k_ ≠ (v292 : Value).ownBlock) v295 t294) := ⟨h3_⟩
                  have n4_ : Aside0 (w78.heap[gb251]? = some (.cells #[.int .i64 x252000_1, .int .i64 x252001_1, .int .i64 x252002_1] 25 (0, 0))) := ⟨h4_⟩
                  have n5_ : Aside0 (w78.heap[gb282]? = some (.cells #[.int .i64 t276, .int .i64 t277, .int .i64 t278] 25 (0, 0))) := ⟨h5_⟩
                  have n6_ : Aside0 (w78.heap[gb289]? = some (.cells #[.int .i64 t283, .int .i64 t284, .int .i64 t285] 25 (0, 0))) := ⟨h6_⟩
                  have n7_ : Aside0 (Below w.heap.size w w78) := ⟨h7_⟩
                  clear HO281
                  clear HO288
                  clear BK251
                  clear BK282
                  clear BK289
                  clear HB
                  clear h0_ h1_ h2_ h3_ h4_ h5_ h6_ h7_
                  have HO281 := n0_
                  have HO288 := n1_
                  have HO293 := n2_
                  have HO296 := n3_
                  have BK251 := n4_
                  have BK282 := n5_
                  have BK289 := n6_
                  have HB := n7_
                  clear n0_ n1_ n2_ n3_ n4_ n5_ n6_ n7_
                  have hHeld : w78.cell? ⟨gb282, 0, none⟩ = some (.int .i64 t276) ∧ w78.cell? ⟨gb282, 1, none⟩ = some (.int .i64 t277) ∧ w78.cell? ⟨gb282, 2, none⟩ = some (.int .i64 t278) ∧ w78.cell? ⟨gb289, 0, none⟩ = some (.int .i64 t283) ∧ w78.cell? ⟨gb289, 1, none⟩ = some (.int .i64 t284) ∧ w78.cell? ⟨gb289, 2, none⟩ = some (.int .i64 t285) := hS_
                  refine norm_ (a' := ?_) ?_ ?_
                  rotate_left
                  ·
                   simp only [putAll, Act.put, List.setIfInBounds_toArray, List.set_cons_zero, List.set_cons_succ]
                   rfl
                  refine one_ (i := 12) (N := some 88) #[true, true, true, true, true, true, true, true, true, true, true, true, true, true, true, true, true, false, false, false, false, false, false, false, false, false, false, false, false, false, false, false, false, false, false, false] rfl rfl (one_of HT_.out (by kernel_rfl)) (by decide) (fun K hK => ?_)
                  have hcv79 := own_string (P := Try.prog) Try.underlying32 Try.underlying5 Try.underlying9 (Kd.own_of_R HO293.out)
                  refine value_ (w1 := ?_) (v := ?_) (by rfl) rfl ?_ ?_
                  rotate_left 2
                  ·
                   go_simp
                   constructor
                   ·
                    rfl
                   ·
                    rfl
                  clear hcv79
                  refine hK.out _ _ ⟨(blk_cell BK282.out 0).trans rfl, (blk_cell BK282.out 1).trans rfl, (blk_cell BK282.out 2).trans rfl, (blk_cell BK289.out 0).trans rfl, (blk_cell BK289.out 1).trans rfl, (blk_cell BK289.out 2).trans rfl⟩ (fun hHeld => ?_)
                  clear hK K
                  refine norm_ (a' := ?_) ?_ ?_
                  rotate_left
                  ·
                   show Act.put _ (some 88) _ = _
                   simp only [Act.put, List.setIfInBounds_toArray, List.set_cons_zero, List.set_cons_succ, i64_w, i32_w]
                   rfl
                  refine pure_ (i := 17) (N := some 93) (v := ?_) (a' := ?_) #[true, true, true, true, true, true, true, true, true, true, true, true, true, true, true, true, true, true, false, false, false, false, false, false, false, false, false, false, false, false, false, false, false, false, false, false] rfl rfl (any_of HT_.out (by kernel_rfl)) (fun _ _ _ h => h) (Or.inl ⟨by rfl, ?_⟩) ?_ ?_
                  rotate_left
                  ·
                   intro w'
                   go_simp
                   with_reducible rfl
                  rotate_left
                  ·
                   simp only [Act.put, List.setIfInBounds_toArray, List.set_cons_zero, List.set_cons_succ, i64_w, i32_w]
                   rfl
                  refine pure_ (i := 18) (N := some 94) (v := ?_) (a' := ?_) #[true, true, true, true, true, true, true, true, true, true, true, true, true, true, true, true, true, true, true, false, false, false, false, false, false, false, false, false, false, false, false, false, false, false, false, false] rfl rfl (any_of HT_.out (by kernel_rfl)) (fun _ _ _ h => h) (Or.inl ⟨by rfl, ?_⟩) ?_ ?_
                  rotate_left
                  ·
                   intro w'
                   go_simp
                   with_reducible rfl
                  rotate_left
                  ·
                   simp only [Act.put, List.setIfInBounds_toArray, List.set_cons_zero, List.set_cons_succ, i64_w, i32_w]
                   rfl
                  refine pure_ (i := 19) (N := some 95) (v := ?_) (a' := ?_) #[true, true, true, true, true, true, true, true, true, true, true, true, true, true, true, true, true, true, true, true, false, false, false, false, false, false, false, false, false, false, false, false, false, false, false, false] rfl rfl (any_of HT_.out (by kernel_rfl)) (fun _ _ _ h => h) (Or.inl ⟨by rfl, ?_⟩) ?_ ?_
                  rotate_left
                  ·
                   intro w'
                   go_simp
                   with_reducible rfl
                  rotate_left
                  ·
                   simp only [Act.put, List.setIfInBounds_toArray, List.set_cons_zero, List.set_cons_succ, i64_w, i32_w]
                   rfl
                  refine pure_ (i := 20) (N := some 96) (v := ?_) (a' := ?_) #[true, true, true, true, true, true, true, true, true, true, true, true, true, true, true, true, true, true, true, true, true, false, false, false, false, false, false, false, false, false, false, false, false, false, false, false] rfl rfl (any_of HT_.out (by kernel_rfl)) (fun _ _ _ h => h) (Or.inl ⟨by rfl, ?_⟩) ?_ ?_
                  rotate_left
                  ·
                   intro w'
                   go_simp
                   with_reducible rfl
                  rotate_left
                  ·
                   simp only [Act.put, List.setIfInBounds_toArray, List.set_cons_zero, List.set_cons_succ, i64_w, i32_w]
                   rfl
                  refine pure_ (i := 21) (N := some 97) (v := ?_) (a' := ?_) #[true, true, true, true, true, true, true, true, true, true, true, true, true, true, true, true, true, true, true, true, true, true, false, false, false, false, false, false, false, false, false, false, false, false, false, false] rfl rfl (any_of HT_.out (by kernel_rfl)) (fun _ _ _ h => h) (Or.inl ⟨by rfl, ?_⟩) ?_ ?_
                  rotate_left
                  ·
                   intro w'
                   go_simp
                   with_reducible rfl
                  rotate_left
                  ·
                   simp only [Act.put, List.setIfInBounds_toArray, List.set_cons_zero, List.set_cons_succ, i64_w, i32_w]
                   rfl
                  refine pure_ (i := 22) (N := some 98) (v := ?_) (a' := ?_) #[true, true, true, true, true, true, true, true, true, true, true, true, true, true, true, true, true, true, true, true, true, true, true, false, false, false, false, false, false, false, false, false, false, false, false, false] rfl rfl (any_of HT_.out (by kernel_rfl)) (fun _ _ _ h => h) (Or.inl ⟨by rfl, ?_⟩) ?_ ?_
                  rotate_left
                  ·
                   intro w'
                   go_simp
                   with_reducible rfl
                  rotate_left
                  ·
                   simp only [Act.put, List.setIfInBounds_toArray, List.set_cons_zero, List.set_cons_succ, i64_w, i32_w]
                   rfl
                  refine pure_ (i := 25) (N := some 101) (v := ?_) (a' := ?_) #[true, true, true, true, true, true, true, true, true, true, true, true, true, true, true, true, true, true, true, true, true, true, true, false, false, true, false, false, false, false, false, false, false, false, false, false] rfl rfl (any_of HT_.out (by kernel_rfl)) (fun _ _ _ h => h) (Or.inl ⟨by rfl, ?_⟩) ?_ ?_
                  rotate_left
                  ·
                   intro w'
                   go_simp
                   with_reducible rfl
                  rotate_left
                  ·
                   simp only [Act.put, List.setIfInBounds_toArray, List.set_cons_zero, List.set_cons_succ, i64_w, i32_w]
                   rfl
                  refine pure_ (i := 26) (N := some 102) (v := ?_) (a' := ?_) #[true, true, true, true, true, true, true, true, true, true, true, true, true, true, true, true, true, true, true, true, true, true, true, false, false, true, true, false, false, false, false, false, false, false, false, false] rfl rfl (any_of HT_.out (by kernel_rfl)) (fun _ _ _ h => h) (Or.inl ⟨by rfl, ?_⟩) ?_ ?_
                  rotate_left
                  ·
                   intro w'
                   go_simp
                   with_reducible rfl
                  rotate_left
                  ·
                   simp only [Act.put, List.setIfInBounds_toArray, List.set_cons_zero, List.set_cons_succ, i64_w, i32_w]
                   rfl
                  refine pure_ (i := 27) (N := some 103) (v := ?_) (a' := ?_) #[true, true, true, true, true, true, true, true, true, true, true, true, true, true, true, true, true, true, true, true, true, true, true, false, false, true, true, true, false, false, false, false, false, false, false, false] rfl rfl (any_of HT_.out (by kernel_rfl)) (fun _ _ _ h => h) (Or.inl ⟨by rfl, ?_⟩) ?_ ?_
                  rotate_left
                  ·
                   intro w'
                   go_simp
                   with_reducible rfl
                  rotate_left
                  ·
                   simp only [Act.put, List.setIfInBounds_toArray, List.set_cons_zero, List.set_cons_succ, i64_w, i32_w]
                   rfl
                  exact norm_ (by first | (simp only [putAll, Act.put, List.setIfInBounds_toArray, List.set_cons_zero, List.set_cons_succ]; done) | (simp only [putAll, Act.put, List.setIfInBounds_toArray, List.set_cons_zero, List.set_cons_succ]; rfl)) (hJ12_15_16 (v295) _ ⟨hHeld, (by (with_reducible repeat (first | apply Kd.R_alloc | apply Kd.R_drewN | apply Kd.R_drew)); exact HO281.out), (by (with_reducible repeat (first | apply Kd.R_alloc | apply Kd.R_drewN | apply Kd.R_drew)); exact HO288.out), (by (with_reducible repeat (first | apply Kd.R_alloc | apply Kd.R_drewN | apply Kd.R_drew)); exact HO293.out), (by (with_reducible repeat (first | apply Kd.R_alloc | apply Kd.R_drewN | apply Kd.R_drew)); exact HO296.out), (by (with_reducible repeat (first | refine blk_drewN ?_ _ | refine blk_drew ?_ | refine blk_alloc ?_ _)); exact BK251.out), (by (with_reducible repeat (first | refine blk_drewN ?_ _ | refine blk_drew ?_ | refine blk_alloc ?_ _)); exact BK282.out), (by (with_reducible repeat (first | refine blk_drewN ?_ _ | refine blk_drew ?_ | refine blk_alloc ?_ _)); exact BK289.out), (by repeat (first | (with_reducible first | exact HB.out | apply below_alloc | apply pw_below_drewN | apply below_drew1 | refine below_set ?_ GE251.out | refine below_set ?_ GE282.out | refine below_set ?_ GE289.out) | exact HB.out))⟩)
                ·
                 skip
                 rintro v295 w78 ⟨hS_, h0_, h1_, h2_, h3_, h4_, h5_, h6_, h7_⟩
                 have n0_ : Aside0 (Kd.R (Kd.int .i32) 21 w78 w.heap.size (fun k_ => some k_ ≠ (.slice Ao72 t286.length co72 : Value).ownBlock) (.slice Ao71 t279.length co71) t279) := ⟨h0_⟩
                 have n1_ : Aside0 (Kd.R (Kd.int .i32) 21 w78 w.heap.size (fun k_ => some k_ ≠ (.slice Ao71 t279.length co71 : Value).ownBlock) (.slice Ao72 t286.length co72) t286) := ⟨h1_⟩
                 have n2_ : Aside0 (Kd.R (Kd.int .u8) 5 w78 w.heap.size (fun k_ => some k_ ≠ (v295 : Value).ownBlock) v292 t291) := ⟨h2_⟩
                 have n3_ : Aside0 (Kd.R (Kd.int .u8) 5 w78 w.heap.size (fun k_ => some k_ ≠ (v292 : Value).ownBlock) v295 t294) := ⟨h3_⟩
                 have n4_ : Aside0 (w78.heap[gb251]? = some (.cells #[.int .i64 x252000_1, .int .i64 x252001_1, .int .i64 x252002_1] 25 (0, 0))) := ⟨h4_⟩
                 have n5_ : Aside0 (w78.heap[gb282]? = some (.cells #[.int .i64 t276, .int .i64 t277, .int .i64 t278] 25 (0, 0))) := ⟨h5_⟩
                 have n6_ : Aside0 (w78.heap[gb289]? = some (.cells #[.int .i64 t283, .int .i64 t284, .int .i64 t285] 25 (0, 0))) := ⟨h6_⟩
                 have n7_ : Aside0 (Below w.heap.size w w78) := ⟨h7_⟩
                 clear HO281
                 clear HO288
                 clear BK251
                 clear BK282
                 clear BK289
                 clear HB
                 clear h0_ h1_ h2_ h3_ h4_ h5_ h6_ h7_
                 have HO281 := n0_
                 have HO288 := n1_
                 have HO293 := n2_
                 have HO296 := n3_
                 have BK251 := n4_
                 have BK282 := n5_
                 have BK289 := n6_
                 have HB := n7_
                 clear n0_ n1_ n2_ n3_ n4_ n5_ n6_ n7_
                 have hHeld : w78.cell? ⟨gb282, 0, none⟩ = some (.int .i64 t276) ∧ w78.cell? ⟨gb282, 1, none⟩ = some (.int .i64 t277) ∧ w78.cell? ⟨gb282, 2, none⟩ = some (.int .i64 t278) ∧ w78.cell? ⟨gb289, 0, none⟩ = some (.int .i64 t283) ∧ w78.cell? ⟨gb289, 1, none⟩ = some (.int .i64 t284) ∧ w78.cell? ⟨gb289, 2, none⟩ = some (.int .i64 t285) := hS_
                 refine norm_ (a' := ?_) ?_ ?_
                 rotate_left
                 ·
                  simp only [putAll, Act.put, List.setIfInBounds_toArray, List.set_cons_zero, List.set_cons_succ]
                  rfl
                 refine one_ (i := 16) (N := some 92) #[true, true, true, true, true, true, true, true, true, true, true, true, true, true, true, true, true, false, false, false, false, false, false, false, false, false, false, false, false, false, false, false, false, false, false, false] rfl rfl (one_of HT_.out (by kernel_rfl)) (by decide) (fun K hK => ?_)
                 have hcv79 := own_string (P := Try.prog) Try.underlying32 Try.underlying5 Try.underlying9 (Kd.own_of_R HO296.out)
                 refine value_ (w1 := ?_) (v := ?_) (by rfl) rfl ?_ ?_
                 rotate_left 2
                 ·
                  go_simp
                  constructor
                  ·
                   rfl
                  ·
                   rfl
                 clear hcv79
                 refine hK.out _ _ ⟨(blk_cell BK282.out 0).trans rfl, (blk_cell BK282.out 1).trans rfl, (blk_cell BK282.out 2).trans rfl, (blk_cell BK289.out 0).trans rfl, (blk_cell BK289.out 1).trans rfl, (blk_cell BK289.out 2).trans rfl⟩ (fun hHeld => ?_)
                 clear hK K
                 refine norm_ (a' := ?_) ?_ ?_
                 rotate_left
                 ·
                  show Act.put _ (some 92) _ = _
                  simp only [Act.put, List.setIfInBounds_toArray, List.set_cons_zero, List.set_cons_succ, i64_w, i32_w]
                  rfl
                 refine pure_ (i := 17) (N := some 93) (v := ?_) (a' := ?_) #[true, true, true, true, true, true, true, true, true, true, true, true, true, true, true, true, true, true, false, false, false, false, false, false, false, false, false, false, false, false, false, false, false, false, false, false] rfl rfl (any_of HT_.out (by kernel_rfl)) (fun _ _ _ h => h) (Or.inl ⟨by rfl, ?_⟩) ?_ ?_
                 rotate_left
                 ·
                  intro w'
                  go_simp
                  with_reducible rfl
                 rotate_left
                 ·
                  simp only [Act.put, List.setIfInBounds_toArray, List.set_cons_zero, List.set_cons_succ, i64_w, i32_w]
                  rfl
                 refine pure_ (i := 18) (N := some 94) (v := ?_) (a' := ?_) #[true, true, true, true, true, true, true, true, true, true, true, true, true, true, true, true, true, true, true, false, false, false, false, false, false, false, false, false, false, false, false, false, false, false, false, false] rfl rfl (any_of HT_.out (by kernel_rfl)) (fun _ _ _ h => h) (Or.inl ⟨by rfl, ?_⟩) ?_ ?_
                 rotate_left
                 ·
                  intro w'
                  go_simp
                  with_reducible rfl
                 rotate_left
                 ·
                  simp only [Act.put, List.setIfInBounds_toArray, List.set_cons_zero, List.set_cons_succ, i64_w, i32_w]
                  rfl
                 refine pure_ (i := 19) (N := some 95) (v := ?_) (a' := ?_) #[true, true, true, true, true, true, true, true, true, true, true, true, true, true, true, true, true, true, true, true, false, false, false, false, false, false, false, false, false, false, false, false, false, false, false, false] rfl rfl (any_of HT_.out (by kernel_rfl)) (fun _ _ _ h => h) (Or.inl ⟨by rfl, ?_⟩) ?_ ?_
                 rotate_left
                 ·
                  intro w'
                  go_simp
                  with_reducible rfl
                 rotate_left
                 ·
                  simp only [Act.put, List.setIfInBounds_toArray, List.set_cons_zero, List.set_cons_succ, i64_w, i32_w]
                  rfl
                 refine pure_ (i := 20) (N := some 96) (v := ?_) (a' := ?_) #[true, true, true, true, true, true, true, true, true, true, true, true, true, true, true, true, true, true, true, true, true, false, false, false, false, false, false, false, false, false, false, false, false, false, false, false] rfl rfl (any_of HT_.out (by kernel_rfl)) (fun _ _ _ h => h) (Or.inl ⟨by rfl, ?_⟩) ?_ ?_
                 rotate_left
                 ·
                  intro w'
                  go_simp
                  with_reducible rfl
                 rotate_left
                 ·
                  simp only [Act.put, List.setIfInBounds_toArray, List.set_cons_zero, List.set_cons_succ, i64_w, i32_w]
                  rfl
                 refine pure_ (i := 21) (N := some 97) (v := ?_) (a' := ?_) #[true, true, true, true, true, true, true, true, true, true, true, true, true, true, true, true, true, true, true, true, true, true, false, false, false, false, false, false, false, false, false, false, false, false, false, false] rfl rfl (any_of HT_.out (by kernel_rfl)) (fun _ _ _ h => h) (Or.inl ⟨by rfl, ?_⟩) ?_ ?_
                 rotate_left
                 ·
                  intro w'
                  go_simp
                  with_reducible rfl
                 rotate_left
                 ·
                  simp only [Act.put, List.setIfInBounds_toArray, List.set_cons_zero, List.set_cons_succ, i64_w, i32_w]
                  rfl
                 refine pure_ (i := 22) (N := some 98) (v := ?_) (a' := ?_) #[true, true, true, true, true, true, true, true, true, true, true, true, true, true, true, true, true, true, true, true, true, true, true, false, false, false, false, false, false, false, false, false, false, false, false, false] rfl rfl (any_of HT_.out (by kernel_rfl)) (fun _ _ _ h => h) (Or.inl ⟨by rfl, ?_⟩) ?_ ?_
                 rotate_left
                 ·
                  intro w'
                  go_simp
                  with_reducible rfl
                 rotate_left
                 ·
                  simp only [Act.put, List.setIfInBounds_toArray, List.set_cons_zero, List.set_cons_succ, i64_w, i32_w]
                  rfl
                 refine pure_ (i := 25) (N := some 101) (v := ?_) (a' := ?_) #[true, true, true, true, true, true, true, true, true, true, true, true, true, true, true, true, true, true, true, true, true, true, true, false, false, true, false, false, false, false, false, false, false, false, false, false] rfl rfl (any_of HT_.out (by kernel_rfl)) (fun _ _ _ h => h) (Or.inl ⟨by rfl, ?_⟩) ?_ ?_
                 rotate_left
                 ·
                  intro w'
                  go_simp
                  with_reducible rfl
                 rotate_left
                 ·
                  simp only [Act.put, List.setIfInBounds_toArray, List.set_cons_zero, List.set_cons_succ, i64_w, i32_w]
                  rfl
                 refine pure_ (i := 26) (N := some 102) (v := ?_) (a' := ?_) #[true, true, true, true, true, true, true, true, true, true, true, true, true, true, true, true, true, true, true, true, true, true, true, false, false, true, true, false, false, false, false, false, false, false, false, false] rfl rfl (any_of HT_.out (by kernel_rfl)) (fun _ _ _ h => h) (Or.inl ⟨by rfl, ?_⟩) ?_ ?_
                 rotate_left
                 ·
                  intro w'
                  go_simp
                  with_reducible rfl
                 rotate_left
                 ·
                  simp only [Act.put, List.setIfInBounds_toArray, List.set_cons_zero, List.set_cons_succ, i64_w, i32_w]
                  rfl
                 refine pure_ (i := 27) (N := some 103) (v := ?_) (a' := ?_) #[true, true, true, true, true, true, true, true, true, true, true, true, true, true, true, true, true, true, true, true, true, true, true, false, false, true, true, true, false, false, false, false, false, false, false, false] rfl rfl (any_of HT_.out (by kernel_rfl)) (fun _ _ _ h => h) (Or.inl ⟨by rfl, ?_⟩) ?_ ?_
                 rotate_left
                 ·
                  intro w'
                  go_simp
                  with_reducible rfl
                 rotate_left
                 ·
                  simp only [Act.put, List.setIfInBounds_toArray, List.set_cons_zero, List.set_cons_succ, i64_w, i32_w]
                  rfl
                 exact norm_ (by first | (simp only [putAll, Act.put, List.setIfInBounds_toArray, List.set_cons_zero, List.set_cons_succ]; done) | (simp only [putAll, Act.put, List.setIfInBounds_toArray, List.set_cons_zero, List.set_cons_succ]; rfl)) (hJ12_15_16 (v295) _ ⟨hHeld, (by (with_reducible repeat (first | apply Kd.R_alloc | apply Kd.R_drewN | apply Kd.R_drew)); exact HO281.out), (by (with_reducible repeat (first | apply Kd.R_alloc | apply Kd.R_drewN | apply Kd.R_drew)); exact HO288.out), (by (with_reducible repeat (first | apply Kd.R_alloc | apply Kd.R_drewN | apply Kd.R_drew)); exact HO293.out), (by (with_reducible repeat (first | apply Kd.R_alloc | apply Kd.R_drewN | apply Kd.R_drew)); exact HO296.out), (by (with_reducible repeat (first | refine blk_drewN ?_ _ | refine blk_drew ?_ | refine blk_alloc ?_ _)); exact BK251.out), (by (with_reducible repeat (first | refine blk_drewN ?_ _ | refine blk_drew ?_ | refine blk_alloc ?_ _)); exact BK282.out), (by (with_reducible repeat (first | refine blk_drewN ?_ _ | refine blk_drew ?_ | refine blk_alloc ?_ _)); exact BK289.out), (by repeat (first | (with_reducible first | exact HB.out | apply below_alloc | apply pw_below_drewN | apply below_drew1 | refine below_set ?_ GE251.out | refine below_set ?_ GE282.out | refine below_set ?_ GE289.out) | exact HB.out))⟩)
               ·
                skip
                rintro v295 w79 ⟨hS_, h0_, h1_, h2_, h3_, h4_, h5_, h6_, h7_⟩
                have n0_ : Aside0 (Kd.R (Kd.int .i32) 21 w79 w.heap.size (fun k_ => some k_ ≠ (.slice Ao72 t286.length co72 : Value).ownBlock) (.slice Ao71 t279.length co71) t279) := ⟨h0_⟩
                have n1_ : Aside0 (Kd.R (Kd.int .i32) 21 w79 w.heap.size (fun k_ => some k_ ≠ (.slice Ao71 t279.length co71 : Value).ownBlock) (.slice Ao72 t286.length co72) t286) := ⟨h1_⟩
                have n2_ : Aside0 (Kd.R (Kd.int .u8) 5 w79 w.heap.size (fun k_ => some k_ ≠ (v295 : Value).ownBlock) v292 t291) := ⟨h2_⟩
                have n3_ : Aside0 (Kd.R (Kd.int .u8) 5 w79 w.heap.size (fun k_ => some k_ ≠ (v292 : Value).ownBlock) v295 t294) := ⟨h3_⟩
                have n4_ : Aside0 (w79.heap[gb251]? = some (.cells #[.int .i64 x252000_1, .int .i64 x252001_1, .int .i64 x252002_1] 25 (0, 0))) := ⟨h4_⟩
                have n5_ : Aside0 (w79.heap[gb282]? = some (.cells #[.int .i64 t276, .int .i64 t277, .int .i64 t278] 25 (0, 0))) := ⟨h5_⟩
                have n6_ : Aside0 (w79.heap[gb289]? = some (.cells #[.int .i64 t283, .int .i64 t284, .int .i64 t285] 25 (0, 0))) := ⟨h6_⟩
                have n7_ : Aside0 (Below w.heap.size w w79) := ⟨h7_⟩
                clear HO281
                clear HO288
                clear BK251
                clear BK282
                clear BK289
                clear HB
                clear h0_ h1_ h2_ h3_ h4_ h5_ h6_ h7_
                have HO281 := n0_
                have HO288 := n1_
                have HO293 := n2_
                have HO296 := n3_
                have BK251 := n4_
                have BK282 := n5_
                have BK289 := n6_
                have HB := n7_
                clear n0_ n1_ n2_ n3_ n4_ n5_ n6_ n7_
                have hHeld : w79.cell? ⟨gb282, 0, none⟩ = some (.int .i64 t276) ∧ w79.cell? ⟨gb282, 1, none⟩ = some (.int .i64 t277) ∧ w79.cell? ⟨gb282, 2, none⟩ = some (.int .i64 t278) ∧ w79.cell? ⟨gb289, 0, none⟩ = some (.int .i64 t283) ∧ w79.cell? ⟨gb289, 1, none⟩ = some (.int .i64 t284) ∧ w79.cell? ⟨gb289, 2, none⟩ = some (.int .i64 t285) := hS_
                refine norm_ (a' := ?_) ?_ ?_
                rotate_left
                ·
                 simp only [putAll, Act.put, List.setIfInBounds_toArray, List.set_cons_zero, List.set_cons_succ]
                 rfl
                refine one_ (i := 23) (N := some 99) #[true, true, true, true, true, true, true, true, true, true, true, true, true, true, true, true, true, true, true, true, true, true, true, true, false, true, true, true, false, false, false, false, false, false, false, false] rfl rfl (one_of HT_.out (by kernel_rfl)) (by decide) (fun K hK => ?_)
                refine goes_ Try.func13 (by kernel_rfl) rfl #[.int .i32 (wrap32 (Go.bits .and .i64 a2 2097151))] (by rfl) rfl rfl (by (try simp only [List.map_toArray, List.map_cons, List.map_nil]); first | done | rfl | (simp only [List.length_drop, List.length_take]; rfl)) ?_
                with_reducible refine (utfd_Put.calls k1 (wrap32 (Go.bits .and .i64 a2 2097151)) t297 _ A56.out).mono ?_
                rintro e w80 ⟨v298, rfl, ho0, hb⟩
                refine ⟨_, rfl, ?_⟩
                have n0_ := Aside0.mk (Kd.R_below (by (with_reducible repeat (first | apply Kd.R_alloc | apply Kd.R_drewN | apply Kd.R_drew)); exact HO281.out) hb)
                have n1_ := Aside0.mk (Kd.R_below (by (with_reducible repeat (first | apply Kd.R_alloc | apply Kd.R_drewN | apply Kd.R_drew)); exact HO288.out) hb)
                have n2_ := Aside0.mk (Kd.R_elder' (by (with_reducible repeat (first | apply Kd.R_alloc | apply Kd.R_drewN | apply Kd.R_drew)); exact HO293.out) (Kd.R_base ho0) hb)
                have n3_ := Aside0.mk (Kd.R_elder' (by (with_reducible repeat (first | apply Kd.R_alloc | apply Kd.R_drewN | apply Kd.R_drew)); exact HO296.out) (Kd.R_base ho0) hb)
                have n4_ := Aside0.mk (Kd.R_lower (Kd.R_new' (Kd.R_new' ho0 (Kd.R_lt (by (with_reducible repeat (first | apply Kd.R_alloc | apply Kd.R_drewN | apply Kd.R_drew)); exact HO293.out))) (Kd.R_lt (by (with_reducible repeat (first | apply Kd.R_alloc | apply Kd.R_drewN | apply Kd.R_drew)); exact HO296.out))) (below_size (by repeat (first | (with_reducible first | exact HB.out | apply below_alloc | apply pw_below_drewN | apply below_drew1 | refine below_set ?_ GE251.out | refine below_set ?_ GE282.out | refine below_set ?_ GE289.out) | exact HB.out))))
                have n5_ := Aside0.mk (blk_below (g := gb251) (o := .cells #[.int .i64 x252000_1, .int .i64 x252001_1, .int .i64 x252002_1] 25 (0, 0)) (by (with_reducible repeat (first | refine blk_drewN ?_ _ | refine blk_drew ?_ | refine blk_alloc ?_ _)); exact BK251.out) hb)
                have n6_ := Aside0.mk (blk_below (g := gb282) (o := .cells #[.int .i64 t276, .int .i64 t277, .int .i64 t278] 25 (0, 0)) (by (with_reducible repeat (first | refine blk_drewN ?_ _ | refine blk_drew ?_ | refine blk_alloc ?_ _)); exact BK282.out) hb)
                have n7_ := Aside0.mk (blk_below (g := gb289) (o := .cells #[.int .i64 t283, .int .i64 t284, .int .i64 t285] 25 (0, 0)) (by (with_reducible repeat (first | refine blk_drewN ?_ _ | refine blk_drew ?_ | refine blk_alloc ?_ _)); exact BK289.out) hb)
                have n8_ := Aside0.mk (below_step (by repeat (first | (with_reducible first | exact HB.out | apply below_alloc | apply pw_below_drewN | apply below_drew1 | refine below_set ?_ GE251.out | refine below_set ?_ GE282.out | refine below_set ?_ GE289.out) | exact HB.out)) hb)
                clear HO281
                clear HO288
                clear HO293
                clear HO296
                clear BK251
                clear BK282
                clear BK289
                clear HB
                have HO281 := n0_
                have HO288 := n1_
                have HO293 := n2_
                have HO296 := n3_
                have HO299 := n4_
                have BK251 := n5_
                have BK282 := n6_
                have BK289 := n7_
                have HB := n8_
                clear n0_ n1_ n2_ n3_ n4_ n5_ n6_ n7_ n8_
                (try clear hb)
                (try clear hb2)
                (try clear hk)
                (try clear hi)
                (try clear ho0)
                refine hK.out _ _ ⟨(blk_cell BK282.out 0).trans rfl, (blk_cell BK282.out 1).trans rfl, (blk_cell BK282.out 2).trans rfl, (blk_cell BK289.out 0).trans rfl, (blk_cell BK289.out 1).trans rfl, (blk_cell BK289.out 2).trans rfl⟩ (fun hHeld => ?_)
                clear hK K
                refine norm_ (a' := ?_) ?_ ?_
                rotate_left
                ·
                 show Act.put _ (some 99) _ = _
                 simp only [Act.put, List.setIfInBounds_toArray, List.set_cons_zero, List.set_cons_succ, i64_w, i32_w]
                 rfl
                exact norm_ (by first | (simp only [putAll, Act.put, List.setIfInBounds_toArray, List.set_cons_zero, List.set_cons_succ]; done) | (simp only [putAll, Act.put, List.setIfInBounds_toArray, List.set_cons_zero, List.set_cons_succ]; rfl)) (hJ12_15_16_23 (v295, v298) _ ⟨hHeld, (by (with_reducible repeat (first | apply Kd.R_alloc | apply Kd.R_drewN | apply Kd.R_drew)); exact HO281.out), (by (with_reducible repeat (first | apply Kd.R_alloc | apply Kd.R_drewN | apply Kd.R_drew)); exact HO288.out), (by (with_reducible repeat (first | apply Kd.R_alloc | apply Kd.R_drewN | apply Kd.R_drew)); exact HO293.out), (by (with_reducible repeat (first | apply Kd.R_alloc | apply Kd.R_drewN | apply Kd.R_drew)); exact HO296.out), (by (with_reducible repeat (first | apply Kd.R_alloc | apply Kd.R_drewN | apply Kd.R_drew)); exact Kd.R_mono HO299.out (fun _ hk => ⟨hk.1.2, hk.2⟩)), (by (with_reducible repeat (first | refine blk_drewN ?_ _ | refine blk_drew ?_ | refine blk_alloc ?_ _)); exact BK251.out), (by (with_reducible repeat (first | refine blk_drewN ?_ _ | refine blk_drew ?_ | refine blk_alloc ?_ _)); exact BK282.out), (by (with_reducible repeat (first | refine blk_drewN ?_ _ | refine blk_drew ?_ | refine blk_alloc ?_ _)); exact BK289.out), (by repeat (first | (with_reducible first | exact HB.out | apply below_alloc | apply pw_below_drewN | apply below_drew1 | refine below_set ?_ GE251.out | refine below_set ?_ GE282.out | refine below_set ?_ GE289.out) | exact HB.out))⟩)
              ·
               skip
               rintro ⟨v295, v298⟩ w80 ⟨hS_, h0_, h1_, h2_, h3_, h4_, h5_, h6_, h7_, h8_⟩
               have n0_ : Aside0 (Kd.R (Kd.int .i32) 21 w80 w.heap.size (fun k_ => some k_ ≠ (.slice Ao72 t286.length co72 : Value).ownBlock) (.slice Ao71 t279.length co71) t279) := ⟨h0_⟩
               have n1_ : Aside0 (Kd.R (Kd.int .i32) 21 w80 w.heap.size (fun k_ => some k_ ≠ (.slice Ao71 t279.length co71 : Value).ownBlock) (.slice Ao72 t286.length co72) t286) := ⟨h1_⟩
               have n2_ : Aside0 (Kd.R (Kd.int .u8) 5 w80 w.heap.size (fun k_ => some k_ ≠ (v295 : Value).ownBlock ∧ some k_ ≠ (v298 : Value).ownBlock) v292 t291) := ⟨h2_⟩
               have n3_ : Aside0 (Kd.R (Kd.int .u8) 5 w80 w.heap.size (fun k_ => some k_ ≠ (v292 : Value).ownBlock ∧ some k_ ≠ (v298 : Value).ownBlock) v295 t294) := ⟨h3_⟩
               have n4_ : Aside0 (Kd.R (Kd.int .u8) 5 w80 w.heap.size (fun k_ => some k_ ≠ (v292 : Value).ownBlock ∧ some k_ ≠ (v295 : Value).ownBlock) v298 t297) := ⟨h4_⟩
               have n5_ : Aside0 (w80.heap[gb251]? = some (.cells #[.int .i64 x252000_1, .int .i64 x252001_1, .int .i64 x252002_1] 25 (0, 0))) := ⟨h5_⟩
               have n6_ : Aside0 (w80.heap[gb282]? = some (.cells #[.int .i64 t276, .int .i64 t277, .int .i64 t278] 25 (0, 0))) := ⟨h6_⟩
               have n7_ : Aside0 (w80.heap[gb289]? = some (.cells #[.int .i64 t283, .int .i64 t284, .int .i64 t285] 25 (0, 0))) := ⟨h7_⟩
               have n8_ : Aside0 (Below w.heap.size w w80) := ⟨h8_⟩
               clear HO281
               clear HO288
               clear BK251
               clear BK282
               clear BK289
               clear HB
               clear h0_ h1_ h2_ h3_ h4_ h5_ h6_ h7_ h8_
               have HO281 := n0_
               have HO288 := n1_
               have HO293 := n2_
               have HO296 := n3_
               have HO299 := n4_
               have BK251 := n5_
               have BK282 := n6_
               have BK289 := n7_
               have HB := n8_
               clear n0_ n1_ n2_ n3_ n4_ n5_ n6_ n7_ n8_
               have hHeld : w80.cell? ⟨gb282, 0, none⟩ = some (.int .i64 t276) ∧ w80.cell? ⟨gb282, 1, none⟩ = some (.int .i64 t277) ∧ w80.cell? ⟨gb282, 2, none⟩ = some (.int .i64 t278) ∧ w80.cell? ⟨gb289, 0, none⟩ = some (.int .i64 t283) ∧ w80.cell? ⟨gb289, 1, none⟩ = some (.int .i64 t284) ∧ w80.cell? ⟨gb289, 2, none⟩ = some (.int .i64 t285) := hS_
               refine norm_ (a' := ?_) ?_ ?_
               rotate_left
               ·
                simp only [putAll, Act.put, List.setIfInBounds_toArray, List.set_cons_zero, List.set_cons_succ]
                rfl
               refine two_ (i := 24) (j := 28) (Ni := some 100) (Nj := some 104) #[true, true, true, true, true, true, true, true, true, true, true, true, true, true, true, true, true, true, true, true, true, true, true, true, true, true, true, true, false, false, false, false, false, false, false, false] #[true, true, true, true, true, true, true, true, true, true, true, true, true, true, true, true, true, true, true, true, true, true, true, true, false, true, true, true, true, false, false, false, false, false, false, false] rfl rfl rfl rfl (two_of HT_.out (by kernel_rfl)) (by decide) (by decide) (fun K hK => ?_) (fun K hK => ?_)
               ·
                skip
                have hcv81 := own_string (P := Try.prog) Try.underlying32 Try.underlying5 Try.underlying9 (Kd.own_of_R HO299.out)
                refine value_ (w1 := ?_) (v := ?_) (by rfl) rfl ?_ ?_
                rotate_left 2
                ·
                 go_simp
                 constructor
                 ·
                  rfl
                 ·
                  rfl
                clear hcv81
                refine hK.out _ _ ⟨(blk_cell BK282.out 0).trans rfl, (blk_cell BK282.out 1).trans rfl, (blk_cell BK282.out 2).trans rfl, (blk_cell BK289.out 0).trans rfl, (blk_cell BK289.out 1).trans rfl, (blk_cell BK289.out 2).trans rfl⟩ (fun hHeld => ?_)
                clear hK K
                refine norm_ (a' := ?_) ?_ ?_
                rotate_left
                ·
                 show Act.put _ (some 100) _ = _
                 simp only [Act.put, List.setIfInBounds_toArray, List.set_cons_zero, List.set_cons_succ, i64_w, i32_w]
                 rfl
                exact norm_ (by first | (simp only [putAll, Act.put, List.setIfInBounds_toArray, List.set_cons_zero, List.set_cons_succ]; done) | (simp only [putAll, Act.put, List.setIfInBounds_toArray, List.set_cons_zero, List.set_cons_succ]; rfl)) (hJ12_15_16_23_24 (v295, v298) _ ⟨hHeld, (by (with_reducible repeat (first | apply Kd.R_alloc | apply Kd.R_drewN | apply Kd.R_drew)); exact HO281.out), (by (with_reducible repeat (first | apply Kd.R_alloc | apply Kd.R_drewN | apply Kd.R_drew)); exact HO288.out), (by (with_reducible repeat (first | apply Kd.R_alloc | apply Kd.R_drewN | apply Kd.R_drew)); exact HO293.out), (by (with_reducible repeat (first | apply Kd.R_alloc | apply Kd.R_drewN | apply Kd.R_drew)); exact HO296.out), (by (with_reducible repeat (first | apply Kd.R_alloc | apply Kd.R_drewN | apply Kd.R_drew)); exact HO299.out), (by (with_reducible repeat (first | refine blk_drewN ?_ _ | refine blk_drew ?_ | refine blk_alloc ?_ _)); exact BK251.out), (by (with_reducible repeat (first | refine blk_drewN ?_ _ | refine blk_drew ?_ | refine blk_alloc ?_ _)); exact BK282.out), (by (with_reducible repeat (first | refine blk_drewN ?_ _ | refine blk_drew ?_ | refine blk_alloc ?_ _)); exact BK289.out), (by repeat (first | (with_reducible first | exact HB.out | apply below_alloc | apply pw_below_drewN | apply below_drew1 | refine below_set ?_ GE251.out | refine below_set ?_ GE282.out | refine below_set ?_ GE289.out) | exact HB.out))⟩)
               ·
                skip
                refine goes_ Try.func14 (by kernel_rfl) rfl #[.int .i32 (wrap32 (Go.bits .and .i64 a2 2097151))] (by rfl) rfl rfl (by (try simp only [List.map_toArray, List.map_cons, List.map_nil]); first | done | rfl | (simp only [List.length_drop, List.length_take]; rfl)) ?_
                with_reducible refine (polyptychref1_Put.calls (wrap32 (Go.bits .and .i64 a2 2097151)) t300 _ A57.out).mono ?_
                rintro e w81 ⟨v301, rfl, ho0, hb⟩
                refine ⟨_, rfl, ?_⟩
                have n0_ := Aside0.mk (Kd.R_below (by (with_reducible repeat (first | apply Kd.R_alloc | apply Kd.R_drewN | apply Kd.R_drew)); exact HO281.out) hb)
                have n1_ := Aside0.mk (Kd.R_below (by (with_reducible repeat (first | apply Kd.R_alloc | apply Kd.R_drewN | apply Kd.R_drew)); exact HO288.out) hb)
                have n2_ := Aside0.mk (Kd.R_elder' (by (with_reducible repeat (first | apply Kd.R_alloc | apply Kd.R_drewN | apply Kd.R_drew)); exact HO293.out) (Kd.R_base ho0) hb)
                have n3_ := Aside0.mk (Kd.R_elder' (by (with_reducible repeat (first | apply Kd.R_alloc | apply Kd.R_drewN | apply Kd.R_drew)); exact HO296.out) (Kd.R_base ho0) hb)
                have n4_ := Aside0.mk (Kd.R_elder' (by (with_reducible repeat (first | apply Kd.R_alloc | apply Kd.R_drewN | apply Kd.R_drew)); exact HO299.out) (Kd.R_base ho0) hb)
                have n5_ := Aside0.mk (Kd.R_lower (Kd.R_new' (Kd.R_new' (Kd.R_new' ho0 (Kd.R_lt (by (with_reducible repeat (first | apply Kd.R_alloc | apply Kd.R_drewN | apply Kd.R_drew)); exact HO293.out))) (Kd.R_lt (by (with_reducible repeat (first | apply Kd.R_alloc | apply Kd.R_drewN | apply Kd.R_drew)); exact HO296.out))) (Kd.R_lt (by (with_reducible repeat (first | apply Kd.R_alloc | apply Kd.R_drewN | apply Kd.R_drew)); exact HO299.out))) (below_size (by repeat (first | (with_reducible first | exact HB.out | apply below_alloc | apply pw_below_drewN | apply below_drew1 | refine below_set ?_ GE251.out | refine below_set ?_ GE282.out | refine below_set ?_ GE289.out) | exact HB.out))))
                have n6_ := Aside0.mk (blk_below (g := gb251) (o := .cells #[.int .i64 x252000_1, .int .i64 x252001_1, .int .i64 x252002_1] 25 (0, 0)) (by (with_reducible repeat (first | refine blk_drewN ?_ _ | refine blk_drew ?_ | refine blk_alloc ?_ _)); exact BK251.out) hb)
                have n7_ := Aside0.mk (blk_below (g := gb282) (o := .cells #[.int .i64 t276, .int .i64 t277, .int .i64 t278] 25 (0, 0)) (by (with_reducible repeat (first | refine blk_drewN ?_ _ | refine blk_drew ?_ | refine blk_alloc ?_ _)); exact BK282.out) hb)
                have n8_ := Aside0.mk (blk_below (g := gb289) (o := .cells #[.int .i64 t283, .int .i64 t284, .int .i64 t285] 25 (0, 0)) (by (with_reducible repeat (first | refine blk_drewN ?_ _ | refine blk_drew ?_ | refine blk_alloc ?_ _)); exact BK289.out) hb)
                have n9_ := Aside0.mk (below_step (by repeat (first | (with_reducible first | exact HB.out | apply below_alloc | apply pw_below_drewN | apply below_drew1 | refine below_set ?_ GE251.out | refine below_set ?_ GE282.out | refine below_set ?_ GE289.out) | exact HB.out)) hb)
                clear HO281
                clear HO288
                clear HO293
                clear HO296
                clear HO299
                clear BK251
                clear BK282
                clear BK289
                clear HB
                have HO281 := n0_
                have HO288 := n1_
                have HO293 := n2_
                have HO296 := n3_
                have HO299 := n4_
                have HO302 := n5_
                have BK251 := n6_
                have BK282 := n7_
                have BK289 := n8_
                have HB := n9_
                clear n0_ n1_ n2_ n3_ n4_ n5_ n6_ n7_ n8_ n9_
                (try clear hb)
                (try clear hb2)
                (try clear hk)
                (try clear hi)
                (try clear ho0)
                refine hK.out _ _ ⟨(blk_cell BK282.out 0).trans rfl, (blk_cell BK282.out 1).trans rfl, (blk_cell BK282.out 2).trans rfl, (blk_cell BK289.out 0).trans rfl, (blk_cell BK289.out 1).trans rfl, (blk_cell BK289.out 2).trans rfl⟩ (fun hHeld => ?_)
                clear hK K
                refine norm_ (a' := ?_) ?_ ?_
                rotate_left
                ·
                 show Act.put _ (some 104) _ = _
                 simp only [Act.put, List.setIfInBounds_toArray, List.set_cons_zero, List.set_cons_succ, i64_w, i32_w]
                 rfl
                exact norm_ (by first | (simp only [putAll, Act.put, List.setIfInBounds_toArray, List.set_cons_zero, List.set_cons_succ]; done) | (simp only [putAll, Act.put, List.setIfInBounds_toArray, List.set_cons_zero, List.set_cons_succ]; rfl)) (hJ12_15_16_23_28 (v295, v298, v301) _ ⟨hHeld, (by (with_reducible repeat (first | apply Kd.R_alloc | apply Kd.R_drewN | apply Kd.R_drew)); exact HO281.out), (by (with_reducible repeat (first | apply Kd.R_alloc | apply Kd.R_drewN | apply Kd.R_drew)); exact HO288.out), (by (with_reducible repeat (first | apply Kd.R_alloc | apply Kd.R_drewN | apply Kd.R_drew)); exact Kd.R_mono HO293.out (fun _ hk => ⟨hk.1.1, ⟨hk.1.2, hk.2⟩⟩)), (by (with_reducible repeat (first | apply Kd.R_alloc | apply Kd.R_drewN | apply Kd.R_drew)); exact Kd.R_mono HO296.out (fun _ hk => ⟨hk.1.1, ⟨hk.1.2, hk.2⟩⟩)), (by (with_reducible repeat (first | apply Kd.R_alloc | apply Kd.R_drewN | apply Kd.R_drew)); exact Kd.R_mono HO299.out (fun _ hk => ⟨hk.1.1, ⟨hk.1.2, hk.2⟩⟩)), (by (with_reducible repeat (first | apply Kd.R_alloc | apply Kd.R_drewN | apply Kd.R_drew)); exact Kd.R_mono HO302.out (fun _ hk => ⟨hk.1.1.2, ⟨hk.1.2, hk.2⟩⟩)), (by (with_reducible repeat (first | refine blk_drewN ?_ _ | refine blk_drew ?_ | refine blk_alloc ?_ _)); exact BK251.out), (by (with_reducible repeat (first | refine blk_drewN ?_ _ | refine blk_drew ?_ | refine blk_alloc ?_ _)); exact BK282.out), (by (with_reducible repeat (first | refine blk_drewN ?_ _ | refine blk_drew ?_ | refine blk_alloc ?_ _)); exact BK289.out), (by repeat (first | (with_reducible first | exact HB.out | apply below_alloc | apply pw_below_drewN | apply below_drew1 | refine below_set ?_ GE251.out | refine below_set ?_ GE282.out | refine below_set ?_ GE289.out) | exact HB.out))⟩)
             ·
              skip
              rintro ⟨v295, v298, v301⟩ w81 ⟨hS_, h0_, h1_, h2_, h3_, h4_, h5_, h6_, h7_, h8_, h9_⟩
              have n0_ : Aside0 (Kd.R (Kd.int .i32) 21 w81 w.heap.size (fun k_ => some k_ ≠ (.slice Ao72 t286.length co72 : Value).ownBlock) (.slice Ao71 t279.length co71) t279) := ⟨h0_⟩
              have n1_ : Aside0 (Kd.R (Kd.int .i32) 21 w81 w.heap.size (fun k_ => some k_ ≠ (.slice Ao71 t279.length co71 : Value).ownBlock) (.slice Ao72 t286.length co72) t286) := ⟨h1_⟩
              have n2_ : Aside0 (Kd.R (Kd.int .u8) 5 w81 w.heap.size (fun k_ => some k_ ≠ (v295 : Value).ownBlock ∧ some k_ ≠ (v298 : Value).ownBlock ∧ some k_ ≠ (v301 : Value).ownBlock) v292 t291) := ⟨h2_⟩
              have n3_ : Aside0 (Kd.R (Kd.int .u8) 5 w81 w.heap.size (fun k_ => some k_ ≠ (v292 : Value).ownBlock ∧ some k_ ≠ (v298 : Value).ownBlock ∧ some k_ ≠ (v301 : Value).ownBlock) v295 t294) := ⟨h3_⟩
              have n4_ : Aside0 (Kd.R (Kd.int .u8) 5 w81 w.heap.size (fun k_ => some k_ ≠ (v292 : Value).ownBlock ∧ some k_ ≠ (v295 : Value).ownBlock ∧ some k_ ≠ (v301 : Value).ownBlock) v298 t297) := ⟨h4_⟩
              have n5_ : Aside0 (Kd.R (Kd.int .u8) 5 w81 w.heap.size (fun k_ => some k_ ≠ (v292 : Value).ownBlock ∧ some k_ ≠ (v295 : Value).ownBlock ∧ some k_ ≠ (v298 : Value).ownBlock) v301 t300) := ⟨h5_⟩
              have n6_ : Aside0 (w81.heap[gb251]? = some (.cells #[.int .i64 x252000_1, .int .i64 x252001_1, .int .i64 x252002_1] 25 (0, 0))) := ⟨h6_⟩
              have n7_ : Aside0 (w81.heap[gb282]? = some (.cells #[.int .i64 t276, .int .i64 t277, .int .i64 t278] 25 (0, 0))) := ⟨h7_⟩
              have n8_ : Aside0 (w81.heap[gb289]? = some (.cells #[.int .i64 t283, .int .i64 t284, .int .i64 t285] 25 (0, 0))) := ⟨h8_⟩
              have n9_ : Aside0 (Below w.heap.size w w81) := ⟨h9_⟩
              clear HO281
              clear HO288
              clear BK251
              clear BK282
              clear BK289
              clear HB
              clear h0_ h1_ h2_ h3_ h4_ h5_ h6_ h7_ h8_ h9_
              have HO281 := n0_
              have HO288 := n1_
              have HO293 := n2_
              have HO296 := n3_
              have HO299 := n4_
              have HO302 := n5_
              have BK251 := n6_
              have BK282 := n7_
              have BK289 := n8_
              have HB := n9_
              clear n0_ n1_ n2_ n3_ n4_ n5_ n6_ n7_ n8_ n9_
              have hHeld : w81.cell? ⟨gb282, 0, none⟩ = some (.int .i64 t276) ∧ w81.cell? ⟨gb282, 1, none⟩ = some (.int .i64 t277) ∧ w81.cell? ⟨gb282, 2, none⟩ = some (.int .i64 t278) ∧ w81.cell? ⟨gb289, 0, none⟩ = some (.int .i64 t283) ∧ w81.cell? ⟨gb289, 1, none⟩ = some (.int .i64 t284) ∧ w81.cell? ⟨gb289, 2, none⟩ = some (.int .i64 t285) := hS_
              refine norm_ (a' := ?_) ?_ ?_
              rotate_left
              ·
               simp only [putAll, Act.put, List.setIfInBounds_toArray, List.set_cons_zero, List.set_cons_succ]
               rfl
              refine two_ (i := 24) (j := 29) (Ni := some 100) (Nj := some 105) #[true, true, true, true, true, true, true, true, true, true, true, true, true, true, true, true, true, true, true, true, true, true, true, true, true, true, true, true, true, false, false, false, false, false, false, false] #[true, true, true, true, true, true, true, true, true, true, true, true, true, true, true, true, true, true, true, true, true, true, true, true, false, true, true, true, true, true, false, false, false, false, false, false] rfl rfl rfl rfl (two_of HT_.out (by kernel_rfl)) (by decide) (by decide) (fun K hK => ?_) (fun K hK => ?_)
              ·
               skip
               have hcv82 := own_string (P := Try.prog) Try.underlying32 Try.underlying5 Try.underlying9 (Kd.own_of_R HO299.out)
               refine value_ (w1 := ?_) (v := ?_) (by rfl) rfl ?_ ?_
               rotate_left 2
               ·
                go_simp
                constructor
                ·
                 rfl
                ·
                 rfl
               clear hcv82
               refine hK.out _ _ ⟨(blk_cell BK282.out 0).trans rfl, (blk_cell BK282.out 1).trans rfl, (blk_cell BK282.out 2).trans rfl, (blk_cell BK289.out 0).trans rfl, (blk_cell BK289.out 1).trans rfl, (blk_cell BK289.out 2).trans rfl⟩ (fun hHeld => ?_)
               clear hK K
               refine norm_ (a' := ?_) ?_ ?_
               rotate_left
               ·
                show Act.put _ (some 100) _ = _
                simp only [Act.put, List.setIfInBounds_toArray, List.set_cons_zero, List.set_cons_succ, i64_w, i32_w]
                rfl
               exact norm_ (by first | (simp only [putAll, Act.put, List.setIfInBounds_toArray, List.set_cons_zero, List.set_cons_succ]; done) | (simp only [putAll, Act.put, List.setIfInBounds_toArray, List.set_cons_zero, List.set_cons_succ]; rfl)) (hJ12_15_16_23_24_28 (v295, v298, v301) _ ⟨hHeld, (by (with_reducible repeat (first | apply Kd.R_alloc | apply Kd.R_drewN | apply Kd.R_drew)); exact HO281.out), (by (with_reducible repeat (first | apply Kd.R_alloc | apply Kd.R_drewN | apply Kd.R_drew)); exact HO288.out), (by (with_reducible repeat (first | apply Kd.R_alloc | apply Kd.R_drewN | apply Kd.R_drew)); exact HO293.out), (by (with_reducible repeat (first | apply Kd.R_alloc | apply Kd.R_drewN | apply Kd.R_drew)); exact HO296.out), (by (with_reducible repeat (first | apply Kd.R_alloc | apply Kd.R_drewN | apply Kd.R_drew)); exact HO299.out), (by (with_reducible repeat (first | apply Kd.R_alloc | apply Kd.R_drewN | apply Kd.R_drew)); exact HO302.out), (by (with_reducible repeat (first | refine blk_drewN ?_ _ | refine blk_drew ?_ | refine blk_alloc ?_ _)); exact BK251.out), (by (with_reducible repeat (first | refine blk_drewN ?_ _ | refine blk_drew ?_ | refine blk_alloc ?_ _)); exact BK282.out), (by (with_reducible repeat (first | refine blk_drewN ?_ _ | refine blk_drew ?_ | refine blk_alloc ?_ _)); exact BK289.out), (by repeat (first | (with_reducible first | exact HB.out | apply below_alloc | apply pw_below_drewN | apply below_drew1 | refine below_set ?_ GE251.out | refine below_set ?_ GE282.out | refine below_set ?_ GE289.out) | exact HB.out))⟩)
              ·
               skip
               have hcv82 := own_string (P := Try.prog) Try.underlying32 Try.underlying5 Try.underlying9 (Kd.own_of_R HO302.out)
               refine value_ (w1 := ?_) (v := ?_) (by rfl) rfl ?_ ?_
               rotate_left 2
               ·
                go_simp
                constructor
                ·
                 rfl
                ·
                 rfl
               clear hcv82
               refine hK.out _ _ ⟨(blk_cell BK282.out 0).trans rfl, (blk_cell BK282.out 1).trans rfl, (blk_cell BK282.out 2).trans rfl, (blk_cell BK289.out 0).trans rfl, (blk_cell BK289.out 1).trans rfl, (blk_cell BK289.out 2).trans rfl⟩ (fun hHeld => ?_)
               clear hK K
               refine norm_ (a' := ?_) ?_ ?_
               rotate_left
               ·
                show Act.put _ (some 105) _ = _
                simp only [Act.put, List.setIfInBounds_toArray, List.set_cons_zero, List.set_cons_succ, i64_w, i32_w]
                rfl
               exact norm_ (by first | (simp only [putAll, Act.put, List.setIfInBounds_toArray, List.set_cons_zero, List.set_cons_succ]; done) | (simp only [putAll, Act.put, List.setIfInBounds_toArray, List.set_cons_zero, List.set_cons_succ]; rfl)) (hJ12_15_16_23_28_29 (v295, v298, v301) _ ⟨hHeld, (by (with_reducible repeat (first | apply Kd.R_alloc | apply Kd.R_drewN | apply Kd.R_drew)); exact HO281.out), (by (with_reducible repeat (first | apply Kd.R_alloc | apply Kd.R_drewN | apply Kd.R_drew)); exact HO288.out), (by (with_reducible repeat (first | apply Kd.R_alloc | apply Kd.R_drewN | apply Kd.R_drew)); exact HO293.out), (by (with_reducible repeat (first | apply Kd.R_alloc | apply Kd.R_drewN | apply Kd.R_drew)); exact HO296.out), (by (with_reducible repeat (first | apply Kd.R_alloc | apply Kd.R_drewN | apply Kd.R_drew)); exact HO299.out), (by (with_reducible repeat (first | apply Kd.R_alloc | apply Kd.R_drewN | apply Kd.R_drew)); exact HO302.out), (by (with_reducible repeat (first | refine blk_drewN ?_ _ | refine blk_drew ?_ | refine blk_alloc ?_ _)); exact BK251.out), (by (with_reducible repeat (first | refine blk_drewN ?_ _ | refine blk_drew ?_ | refine blk_alloc ?_ _)); exact BK282.out), (by (with_reducible repeat (first | refine blk_drewN ?_ _ | refine blk_drew ?_ | refine blk_alloc ?_ _)); exact BK289.out), (by repeat (first | (with_reducible first | exact HB.out | apply below_alloc | apply pw_below_drewN | apply below_drew1 | refine below_set ?_ GE251.out | refine below_set ?_ GE282.out | refine below_set ?_ GE289.out) | exact HB.out))⟩)
            ·
             skip
             rintro ⟨v295, v298⟩ w81 ⟨hS_, h0_, h1_, h2_, h3_, h4_, h5_, h6_, h7_, h8_⟩
             have n0_ : Aside0 (Kd.R (Kd.int .i32) 21 w81 w.heap.size (fun k_ => some k_ ≠ (.slice Ao72 t286.length co72 : Value).ownBlock) (.slice Ao71 t279.length co71) t279) := ⟨h0_⟩
             have n1_ : Aside0 (Kd.R (Kd.int .i32) 21 w81 w.heap.size (fun k_ => some k_ ≠ (.slice Ao71 t279.length co71 : Value).ownBlock) (.slice Ao72 t286.length co72) t286) := ⟨h1_⟩
             have n2_ : Aside0 (Kd.R (Kd.int .u8) 5 w81 w.heap.size (fun k_ => some k_ ≠ (v295 : Value).ownBlock ∧ some k_ ≠ (v298 : Value).ownBlock) v292 t291) := ⟨h2_⟩
             have n3_ : Aside0 (Kd.R (Kd.int .u8) 5 w81 w.heap.size (fun k_ => some k_ ≠ (v292 : Value).ownBlock ∧ some k_ ≠ (v298 : Value).ownBlock) v295 t294) := ⟨h3_⟩
             have n4_ : Aside0 (Kd.R (Kd.int .u8) 5 w81 w.heap.size (fun k_ => some k_ ≠ (v292 : Value).ownBlock ∧ some k_ ≠ (v295 : Value).ownBlock) v298 t297) := ⟨h4_⟩
             have n5_ : Aside0 (w81.heap[gb251]? = some (.cells #[.int .i64 x252000_1, .int .i64 x252001_1, .int .i64 x252002_1] 25 (0, 0))) := ⟨h5_⟩
             have n6_ : Aside0 (w81.heap[gb282]? = some (.cells #[.int .i64 t276, .int .i64 t277, .int .i64 t278] 25 (0, 0))) := ⟨h6_⟩
             have n7_ : Aside0 (w81.heap[gb289]? = some (.cells #[.int .i64 t283, .int .i64 t284, .int .i64 t285] 25 (0, 0))) := ⟨h7_⟩
             have n8_ : Aside0 (Below w.heap.size w w81) := ⟨h8_⟩
             clear HO281
             clear HO288
             clear BK251
             clear BK282
             clear BK289
             clear HB
             clear h0_ h1_ h2_ h3_ h4_ h5_ h6_ h7_ h8_
             have HO281 := n0_
             have HO288 := n1_
             have HO293 := n2_
             have HO296 := n3_
             have HO299 := n4_
             have BK251 := n5_
             have BK282 := n6_
             have BK289 := n7_
             have HB := n8_
             clear n0_ n1_ n2_ n3_ n4_ n5_ n6_ n7_ n8_
             have hHeld : w81.cell? ⟨gb282, 0, none⟩ = some (.int .i64 t276) ∧ w81.cell? ⟨gb282, 1, none⟩ = some (.int .i64 t277) ∧ w81.cell? ⟨gb282, 2, none⟩ = some (.int .i64 t278) ∧ w81.cell? ⟨gb289, 0, none⟩ = some (.int .i64 t283) ∧ w81.cell? ⟨gb289, 1, none⟩ = some (.int .i64 t284) ∧ w81.cell? ⟨gb289, 2, none⟩ = some (.int .i64 t285) := hS_
             refine norm_ (a' := ?_) ?_ ?_
             rotate_left
             ·
              simp only [putAll, Act.put, List.setIfInBounds_toArray, List.set_cons_zero, List.set_cons_succ]
              rfl
             refine one_ (i := 28) (N := some 104) #[true, true, true, true, true, true, true, true, true, true, true, true, true, true, true, true, true, true, true, true, true, true, true, true, true, true, true, true, true, false, false, false, false, false, false, false] rfl rfl (one_of HT_.out (by kernel_rfl)) (by decide) (fun K hK => ?_)
             refine goes_ Try.func14 (by kernel_rfl) rfl #[.int .i32 (wrap32 (Go.bits .and .i64 a2 2097151))] (by rfl) rfl rfl (by (try simp only [List.map_toArray, List.map_cons, List.map_nil]); first | done | rfl | (simp only [List.length_drop, List.length_take]; rfl)) ?_
             with_reducible refine (polyptychref1_Put.calls (wrap32 (Go.bits .and .i64 a2 2097151)) t300 _ A57.out).mono ?_
             rintro e w82 ⟨v301, rfl, ho0, hb⟩
             refine ⟨_, rfl, ?_⟩
             have n0_ := Aside0.mk (Kd.R_below (by (with_reducible repeat (first | apply Kd.R_alloc | apply Kd.R_drewN | apply Kd.R_drew)); exact HO281.out) hb)
             have n1_ := Aside0.mk (Kd.R_below (by (with_reducible repeat (first | apply Kd.R_alloc | apply Kd.R_drewN | apply Kd.R_drew)); exact HO288.out) hb)
             have n2_ := Aside0.mk (Kd.R_elder' (by (with_reducible repeat (first | apply Kd.R_alloc | apply Kd.R_drewN | apply Kd.R_drew)); exact HO293.out) (Kd.R_base ho0) hb)
             have n3_ := Aside0.mk (Kd.R_elder' (by (with_reducible repeat (first | apply Kd.R_alloc | apply Kd.R_drewN | apply Kd.R_drew)); exact HO296.out) (Kd.R_base ho0) hb)
             have n4_ := Aside0.mk (Kd.R_elder' (by (with_reducible repeat (first | apply Kd.R_alloc | apply Kd.R_drewN | apply Kd.R_drew)); exact HO299.out) (Kd.R_base ho0) hb)
             have n5_ := Aside0.mk (Kd.R_lower (Kd.R_new' (Kd.R_new' (Kd.R_new' ho0 (Kd.R_lt (by (with_reducible repeat (first | apply Kd.R_alloc | apply Kd.R_drewN | apply Kd.R_drew)); exact HO293.out))) (Kd.R_lt (by (with_reducible repeat (first | apply Kd.R_alloc | apply Kd.R_drewN | apply Kd.R_drew)); exact HO296.out))) (Kd.R_lt (by (with_reducible repeat (first | apply Kd.R_alloc | apply Kd.R_drewN | apply Kd.R_drew)); exact HO299.out))) (below_size (by repeat (first | (with_reducible first | exact HB.out | apply below_alloc | apply pw_below_drewN | apply below_drew1 | refine below_set ?_ GE251.out | refine below_set ?_ GE282.out | refine below_set ?_ GE289.out) | exact HB.out))))
             have n6_ := Aside0.mk (blk_below (g := gb251) (o := .cells #[.int .i64 x252000_1, .int .i64 x252001_1, .int .i64 x252002_1] 25 (0, 0)) (by (with_reducible repeat (first | refine blk_drewN ?_ _ | refine blk_drew ?_ | refine blk_alloc ?_ _)); exact BK251.out) hb)
             have n7_ := Aside0.mk (blk_below (g := gb282) (o := .cells #[.int .i64 t276, .int .i64 t277, .int .i64 t278] 25 (0, 0)) (by (with_reducible repeat (first | refine blk_drewN ?_ _ | refine blk_drew ?_ | refine blk_alloc ?_ _)); exact BK282.out) hb)
             have n8_ := Aside0.mk (blk_below (g := gb289) (o := .cells #[.int .i64 t283, .int .i64 t284, .int .i64 t285] 25 (0, 0)) (by (with_reducible repeat (first | refine blk_drewN ?_ _ | refine blk_drew ?_ | refine blk_alloc ?_ _)); exact BK289.out) hb)
             have n9_ := Aside0.mk (below_step (by repeat (first | (with_reducible first | exact HB.out | apply below_alloc | apply pw_below_drewN | apply below_drew1 | refine below_set ?_ GE251.out | refine below_set ?_ GE282.out | refine below_set ?_ GE289.out) | exact HB.out)) hb)
             clear HO281
             clear HO288
             clear HO293
             clear HO296
             clear HO299
             clear BK251
             clear BK282
             clear BK289
             clear HB
             have HO281 := n0_
             have HO288 := n1_
             have HO293 := n2_
             have HO296 := n3_
             have HO299 := n4_
             have HO302 := n5_
             have BK251 := n6_
             have BK282 := n7_
             have BK289 := n8_
             have HB := n9_
             clear n0_ n1_ n2_ n3_ n4_ n5_ n6_ n7_ n8_ n9_
             (try clear hb)
             (try clear hb2)
             (try clear hk)
             (try clear hi)
             (try clear ho0)
             refine hK.out _ _ ⟨(blk_cell BK282.out 0).trans rfl, (blk_cell BK282.out 1).trans rfl, (blk_cell BK282.out 2).trans rfl, (blk_cell BK289.out 0).trans rfl, (blk_cell BK289.out 1).trans rfl, (blk_cell BK289.out 2).trans rfl⟩ (fun hHeld => ?_)
             clear hK K
             refine norm_ (a' := ?_) ?_ ?_
             rotate_left
             ·
              show Act.put _ (some 104) _ = _
              simp only [Act.put, List.setIfInBounds_toArray, List.set_cons_zero, List.set_cons_succ, i64_w, i32_w]
              rfl
             exact norm_ (by first | (simp only [putAll, Act.put, List.setIfInBounds_toArray, List.set_cons_zero, List.set_cons_succ]; done) | (simp only [putAll, Act.put, List.setIfInBounds_toArray, List.set_cons_zero, List.set_cons_succ]; rfl)) (hJ12_15_16_23_24_28 (v295, v298, v301) _ ⟨hHeld, (by (with_reducible repeat (first | apply Kd.R_alloc | apply Kd.R_drewN | apply Kd.R_drew)); exact HO281.out), (by (with_reducible repeat (first | apply Kd.R_alloc | apply Kd.R_drewN | apply Kd.R_drew)); exact HO288.out), (by (with_reducible repeat (first | apply Kd.R_alloc | apply Kd.R_drewN | apply Kd.R_drew)); exact Kd.R_mono HO293.out (fun _ hk => ⟨hk.1.1, ⟨hk.1.2, hk.2⟩⟩)), (by (with_reducible repeat (first | apply Kd.R_alloc | apply Kd.R_drewN | apply Kd.R_drew)); exact Kd.R_mono HO296.out (fun _ hk => ⟨hk.1.1, ⟨hk.1.2, hk.2⟩⟩)), (by (with_reducible repeat (first | apply Kd.R_alloc | apply Kd.R_drewN | apply Kd.R_drew)); exact Kd.R_mono HO299.out (fun _ hk => ⟨hk.1.1, ⟨hk.1.2, hk.2⟩⟩)), (by (with_reducible repeat (first | apply Kd.R_alloc | apply Kd.R_drewN | apply Kd.R_drew)); exact Kd.R_mono HO302.out (fun _ hk => ⟨hk.1.1.2, ⟨hk.1.2, hk.2⟩⟩)), (by (with_reducible repeat (first | refine blk_drewN ?_ _ | refine blk_drew ?_ | refine blk_alloc ?_ _)); exact BK251.out), (by (with_reducible repeat (first | refine blk_drewN ?_ _ | refine blk_drew ?_ | refine blk_alloc ?_ _)); exact BK282.out), (by (with_reducible repeat (first | refine blk_drewN ?_ _ | refine blk_drew ?_ | refine blk_alloc ?_ _)); exact BK289.out), (by repeat (first | (with_reducible first | exact HB.out | apply below_alloc | apply pw_below_drewN | apply below_drew1 | refine below_set ?_ GE251.out | refine below_set ?_ GE282.out | refine below_set ?_ GE289.out) | exact HB.out))⟩)
           ·
            skip
            rintro ⟨v295, v298, v301⟩ w82 ⟨hS_, h0_, h1_, h2_, h3_, h4_, h5_, h6_, h7_, h8_, h9_⟩
            have n0_ : Aside0 (Kd.R (Kd.int .i32) 21 w82 w.heap.size (fun k_ => some k_ ≠ (.slice Ao72 t286.length co72 : Value).ownBlock) (.slice Ao71 t279.length co71) t279) := ⟨h0_⟩
            have n1_ : Aside0 (Kd.R (Kd.int .i32) 21 w82 w.heap.size (fun k_ => some k_ ≠ (.slice Ao71 t279.length co71 : Value).ownBlock) (.slice Ao72 t286.length co72) t286) := ⟨h1_⟩
            have n2_ : Aside0 (Kd.R (Kd.int .u8) 5 w82 w.heap.size (fun k_ => some k_ ≠ (v295 : Value).ownBlock ∧ some k_ ≠ (v298 : Value).ownBlock ∧ some k_ ≠ (v301 : Value).ownBlock) v292 t291) := ⟨h2_⟩
            have n3_ : Aside0 (Kd.R (Kd.int .u8) 5 w82 w.heap.size (fun k_ => some k_ ≠ (v292 : Value).ownBlock ∧ some k_ ≠ (v298 : Value).ownBlock ∧ some k_ ≠ (v301 : Value).ownBlock) v295 t294) := ⟨h3_⟩
            have n4_ : Aside0 (Kd.R (Kd.int .u8) 5 w82 w.heap.size (fun k_ => some k_ ≠ (v292 : Value).ownBlock ∧ some k_ ≠ (v295 : Value).ownBlock ∧ some k_ ≠ (v301 : Value).ownBlock) v298 t297) := ⟨h4_⟩
            have n5_ : Aside0 (Kd.R (Kd.int .u8) 5 w82 w.heap.size (fun k_ => some k_ ≠ (v292 : Value).ownBlock ∧ some k_ ≠ (v295 : Value).ownBlock ∧ some k_ ≠ (v298 : Value).ownBlock) v301 t300) := ⟨h5_⟩
            have n6_ : Aside0 (w82.heap[gb251]? = some (.cells #[.int .i64 x252000_1, .int .i64 x252001_1, .int .i64 x252002_1] 25 (0, 0))) := ⟨h6_⟩
            have n7_ : Aside0 (w82.heap[gb282]? = some (.cells #[.int .i64 t276, .int .i64 t277, .int .i64 t278] 25 (0, 0))) := ⟨h7_⟩
            have n8_ : Aside0 (w82.heap[gb289]? = some (.cells #[.int .i64 t283, .int .i64 t284, .int .i64 t285] 25 (0, 0))) := ⟨h8_⟩
            have n9_ : Aside0 (Below w.heap.size w w82) := ⟨h9_⟩
            clear HO281
            clear HO288
            clear BK251
            clear BK282
            clear BK289
            clear HB
            clear h0_ h1_ h2_ h3_ h4_ h5_ h6_ h7_ h8_ h9_
            have HO281 := n0_
            have HO288 := n1_
            have HO293 := n2_
            have HO296 := n3_
            have HO299 := n4_
            have HO302 := n5_
            have BK251 := n6_
            have BK282 := n7_
            have BK289 := n8_
            have HB := n9_
            clear n0_ n1_ n2_ n3_ n4_ n5_ n6_ n7_ n8_ n9_
            have hHeld : w82.cell? ⟨gb282, 0, none⟩ = some (.int .i64 t276) ∧ w82.cell? ⟨gb282, 1, none⟩ = some (.int .i64 t277) ∧ w82.cell? ⟨gb282, 2, none⟩ = some (.int .i64 t278) ∧ w82.cell? ⟨gb289, 0, none⟩ = some (.int .i64 t283) ∧ w82.cell? ⟨gb289, 1, none⟩ = some (.int .i64 t284) ∧ w82.cell? ⟨gb289, 2, none⟩ = some (.int .i64 t285) := hS_
            refine norm_ (a' := ?_) ?_ ?_
            rotate_left
            ·
             simp only [putAll, Act.put, List.setIfInBounds_toArray, List.set_cons_zero, List.set_cons_succ]
             rfl
            refine one_ (i := 24) (N := some 100) #[true, true, true, true, true, true, true, true, true, true, true, true, true, true, true, true, true, true, true, true, true, true, true, true, true, true, true, true, true, true, false, false, false, false, false, false] rfl rfl (one_of HT_.out (by kernel_rfl)) (by decide) (fun K hK => ?_)
            have hcv83 := own_string (P := Try.prog) Try.underlying32 Try.underlying5 Try.underlying9 (Kd.own_of_R HO299.out)
            refine value_ (w1 := ?_) (v := ?_) (by rfl) rfl ?_ ?_
            rotate_left 2
            ·
             go_simp
             constructor
             ·
              rfl
             ·
              rfl
            clear hcv83
            refine hK.out _ _ ⟨(blk_cell BK282.out 0).trans rfl, (blk_cell BK282.out 1).trans rfl, (blk_cell BK282.out 2).trans rfl, (blk_cell BK289.out 0).trans rfl, (blk_cell BK289.out 1).trans rfl, (blk_cell BK289.out 2).trans rfl⟩ (fun hHeld => ?_)
            clear hK K
            refine norm_ (a' := ?_) ?_ ?_
            rotate_left
            ·
             show Act.put _ (some 100) _ = _
             simp only [Act.put, List.setIfInBounds_toArray, List.set_cons_zero, List.set_cons_succ, i64_w, i32_w]
             rfl
            exact norm_ (by first | (simp only [putAll, Act.put, List.setIfInBounds_toArray, List.set_cons_zero, List.set_cons_succ]; done) | (simp only [putAll, Act.put, List.setIfInBounds_toArray, List.set_cons_zero, List.set_cons_succ]; rfl)) (hJ12_15_16_23_24_28_29 (v295, v298, v301) _ ⟨hHeld, (by (with_reducible repeat (first | apply Kd.R_alloc | apply Kd.R_drewN | apply Kd.R_drew)); exact HO281.out), (by (with_reducible repeat (first | apply Kd.R_alloc | apply Kd.R_drewN | apply Kd.R_drew)); exact HO288.out), (by (with_reducible repeat (first | apply Kd.R_alloc | apply Kd.R_drewN | apply Kd.R_drew)); exact HO293.out), (by (with_reducible repeat (first | apply Kd.R_alloc | apply Kd.R_drewN | apply Kd.R_drew)); exact HO296.out), (by (with_reducible repeat (first | apply Kd.R_alloc | apply Kd.R_drewN | apply Kd.R_drew)); exact HO299.out), (by (with_reducible repeat (first | apply Kd.R_alloc | apply Kd.R_drewN | apply Kd.R_drew)); exact HO302.out), (by (with_reducible repeat (first | refine blk_drewN ?_ _ | refine blk_drew ?_ | refine blk_alloc ?_ _)); exact BK251.out), (by (with_reducible repeat (first | refine blk_drewN ?_ _ | refine blk_drew ?_ | refine blk_alloc ?_ _)); exact BK282.out), (by (with_reducible repeat (first | refine blk_drewN ?_ _ | refine blk_drew ?_ | refine blk_alloc ?_ _)); exact BK289.out), (by repeat (first | (with_reducible first | exact HB.out | apply below_alloc | apply pw_below_drewN | apply below_drew1 | refine below_set ?_ GE251.out | refine below_set ?_ GE282.out | refine below_set ?_ GE289.out) | exact HB.out))⟩)
          ·
           skip
           rintro ⟨v295, v298, v301⟩ w82 ⟨hS_, h0_, h1_, h2_, h3_, h4_, h5_, h6_, h7_, h8_, h9_⟩
           have n0_ : Aside0 (Kd.R (Kd.int .i32) 21 w82 w.heap.size (fun k_ => some k_ ≠ (.slice Ao72 t286.length co72 : Value).ownBlock) (.slice Ao71 t279.length co71) t279) := ⟨h0_⟩
           have n1_ : Aside0 (Kd.R (Kd.int .i32) 21 w82 w.heap.size (fun k_ => some k_ ≠ (.slice Ao71 t279.length co71 : Value).ownBlock) (.slice Ao72 t286.length co72) t286) := ⟨h1_⟩
           have n2_ : Aside0 (Kd.R (Kd.int .u8) 5 w82 w.heap.size (fun k_ => some k_ ≠ (v295 : Value).ownBlock ∧ some k_ ≠ (v298 : Value).ownBlock ∧ some k_ ≠ (v301 : Value).ownBlock) v292 t291) := ⟨h2_⟩
           have n3_ : Aside0 (Kd.R (Kd.int .u8) 5 w82 w.heap.size (fun k_ => some k_ ≠ (v292 : Value).ownBlock ∧ some k_ ≠ (v298 : Value).ownBlock ∧ some k_ ≠ (v301 : Value).ownBlock) v295 t294) := ⟨h3_⟩
           have n4_ : Aside0 (Kd.R (Kd.int .u8) 5 w82 w.heap.size (fun k_ => some k_ ≠ (v292 : Value).ownBlock ∧ some k_ ≠ (v295 : Value).ownBlock ∧ some k_ ≠ (v301 : Value).ownBlock) v298 t297) := ⟨h4_⟩
           have n5_ : Aside0 (Kd.R (Kd.int .u8) 5 w82 w.heap.size (fun k_ => some k_ ≠ (v292 : Value).ownBlock ∧ some k_ ≠ (v295 : Value).ownBlock ∧ some k_ ≠ (v298 : Value).ownBlock) v301 t300) := ⟨h5_⟩
           have n6_ : Aside0 (w82.heap[gb251]? = some (.cells #[.int .i64 x252000_1, .int .i64 x252001_1, .int .i64 x252002_1] 25 (0, 0))) := ⟨h6_⟩
           have n7_ : Aside0 (w82.heap[gb282]? = some (.cells #[.int .i64 t276, .int .i64 t277, .int .i64 t278] 25 (0, 0))) := ⟨h7_⟩
           have n8_ : Aside0 (w82.heap[gb289]? = some (.cells #[.int .i64 t283, .int .i64 t284, .int .i64 t285] 25 (0, 0))) := ⟨h8_⟩
           have n9_ : Aside0 (Below w.heap.size w w82) := ⟨h9_⟩
           clear HO281
           clear HO288
           clear BK251
           clear BK282
           clear BK289
           clear HB
           clear h0_ h1_ h2_ h3_ h4_ h5_ h6_ h7_ h8_ h9_
           have HO281 := n0_
           have HO288 := n1_
           have HO293 := n2_
           have HO296 := n3_
           have HO299 := n4_
           have HO302 := n5_
           have BK251 := n6_
           have BK282 := n7_
           have BK289 := n8_
           have HB := n9_
           clear n0_ n1_ n2_ n3_ n4_ n5_ n6_ n7_ n8_ n9_
           have hHeld : w82.cell? ⟨gb282, 0, none⟩ = some (.int .i64 t276) ∧ w82.cell? ⟨gb282, 1, none⟩ = some (.int .i64 t277) ∧ w82.cell? ⟨gb282, 2, none⟩ = some (.int .i64 t278) ∧ w82.cell? ⟨gb289, 0, none⟩ = some (.int .i64 t283) ∧ w82.cell? ⟨gb289, 1, none⟩ = some (.int .i64 t284) ∧ w82.cell? ⟨gb289, 2, none⟩ = some (.int .i64 t285) := hS_
           refine norm_ (a' := ?_) ?_ ?_
           rotate_left
           ·
            simp only [putAll, Act.put, List.setIfInBounds_toArray, List.set_cons_zero, List.set_cons_succ]
            rfl
           refine one_ (i := 29) (N := some 105) #[true, true, true, true, true, true, true, true, true, true, true, true, true, true, true, true, true, true, true, true, true, true, true, true, true, true, true, true, true, true, false, false, false, false, false, false] rfl rfl (one_of HT_.out (by kernel_rfl)) (by decide) (fun K hK => ?_)
           have hcv83 := own_string (P := Try.prog) Try.underlying32 Try.underlying5 Try.underlying9 (Kd.own_of_R HO302.out)
           refine value_ (w1 := ?_) (v := ?_) (by rfl) rfl ?_ ?_
           rotate_left 2
           ·
            go_simp
            constructor
            ·
             rfl
            ·
             rfl
           clear hcv83
           refine hK.out _ _ ⟨(blk_cell BK282.out 0).trans rfl, (blk_cell BK282.out 1).trans rfl, (blk_cell BK282.out 2).trans rfl, (blk_cell BK289.out 0).trans rfl, (blk_cell BK289.out 1).trans rfl, (blk_cell BK289.out 2).trans rfl⟩ (fun hHeld => ?_)
           clear hK K
           refine norm_ (a' := ?_) ?_ ?_
           rotate_left
           ·
            show Act.put _ (some 105) _ = _
            simp only [Act.put, List.setIfInBounds_toArray, List.set_cons_zero, List.set_cons_succ, i64_w, i32_w]
            rfl
           exact norm_ (by first | (simp only [putAll, Act.put, List.setIfInBounds_toArray, List.set_cons_zero, List.set_cons_succ]; done) | (simp only [putAll, Act.put, List.setIfInBounds_toArray, List.set_cons_zero, List.set_cons_succ]; rfl)) (hJ12_15_16_23_24_28_29 (v295, v298, v301) _ ⟨hHeld, (by (with_reducible repeat (first | apply Kd.R_alloc | apply Kd.R_drewN | apply Kd.R_drew)); exact HO281.out), (by (with_reducible repeat (first | apply Kd.R_alloc | apply Kd.R_drewN | apply Kd.R_drew)); exact HO288.out), (by (with_reducible repeat (first | apply Kd.R_alloc | apply Kd.R_drewN | apply Kd.R_drew)); exact HO293.out), (by (with_reducible repeat (first | apply Kd.R_alloc | apply Kd.R_drewN | apply Kd.R_drew)); exact HO296.out), (by (with_reducible repeat (first | apply Kd.R_alloc | apply Kd.R_drewN | apply Kd.R_drew)); exact HO299.out), (by (with_reducible repeat (first | apply Kd.R_alloc | apply Kd.R_drewN | apply Kd.R_drew)); exact HO302.out), (by (with_reducible repeat (first | refine blk_drewN ?_ _ | refine blk_drew ?_ | refine blk_alloc ?_ _)); exact BK251.out), (by (with_reducible repeat (first | refine blk_drewN ?_ _ | refine blk_drew ?_ | refine blk_alloc ?_ _)); exact BK282.out), (by (with_reducible repeat (first | refine blk_drewN ?_ _ | refine blk_drew ?_ | refine blk_alloc ?_ _)); exact BK289.out), (by repeat (first | (with_reducible first | exact HB.out | apply below_alloc | apply pw_below_drewN | apply below_drew1 | refine below_set ?_ GE251.out | refine below_set ?_ GE282.out | refine below_set ?_ GE289.out) | exact HB.out))⟩)
         rintro ⟨v295, v298, v301⟩ w83 ⟨hS_, h0_, h1_, h2_, h3_, h4_, h5_, h6_, h7_, h8_, h9_⟩
         have n0_ : Aside0 (Kd.R (Kd.int .i32) 21 w83 w.heap.size (fun k_ => some k_ ≠ (.slice Ao72 t286.length co72 : Value).ownBlock) (.slice Ao71 t279.length co71) t279) := ⟨h0_⟩
         have n1_ : Aside0 (Kd.R (Kd.int .i32) 21 w83 w.heap.size (fun k_ => some k_ ≠ (.slice Ao71 t279.length co71 : Value).ownBlock) (.slice Ao72 t286.length co72) t286) := ⟨h1_⟩
         have n2_ : Aside0 (Kd.R (Kd.int .u8) 5 w83 w.heap.size (fun k_ => some k_ ≠ (v295 : Value).ownBlock ∧ some k_ ≠ (v298 : Value).ownBlock ∧ some k_ ≠ (v301 : Value).ownBlock) v292 t291) := ⟨h2_⟩
         have n3_ : Aside0 (Kd.R (Kd.int .u8) 5 w83 w.heap.size (fun k_ => some k_ ≠ (v292 : Value).ownBlock ∧ some k_ ≠ (v298 : Value).ownBlock ∧ some k_ ≠ (v301 : Value).ownBlock) v295 t294) := ⟨h3_⟩
         have n4_ : Aside0 (Kd.R (Kd.int .u8) 5 w83 w.heap.size (fun k_ => some k_ ≠ (v292 : Value).ownBlock ∧ some k_ ≠ (v295 : Value).ownBlock ∧ some k_ ≠ (v301 : Value).ownBlock) v298 t297) := ⟨h4_⟩
         have n5_ : Aside0 (Kd.R (Kd.int .u8) 5 w83 w.heap.size (fun k_ => some k_ ≠ (v292 : Value).ownBlock ∧ some k_ ≠ (v295 : Value).ownBlock ∧ some k_ ≠ (v298 : Value).ownBlock) v301 t300) := ⟨h5_⟩
         have n6_ : Aside0 (w83.heap[gb251]? = some (.cells #[.int .i64 x252000_1, .int .i64 x252001_1, .int .i64 x252002_1] 25 (0, 0))) := ⟨h6_⟩
         have n7_ : Aside0 (w83.heap[gb282]? = some (.cells #[.int .i64 t276, .int .i64 t277, .int .i64 t278] 25 (0, 0))) := ⟨h7_⟩
         have n8_ : Aside0 (w83.heap[gb289]? = some (.cells #[.int .i64 t283, .int .i64 t284, .int .i64 t285] 25 (0, 0))) := ⟨h8_⟩
         have n9_ : Aside0 (Below w.heap.size w w83) := ⟨h9_⟩
         clear HO281
         clear HO288
         clear BK251
         clear BK282
         clear BK289
         clear HB
         clear h0_ h1_ h2_ h3_ h4_ h5_ h6_ h7_ h8_ h9_
         have HO281 := n0_
         have HO288 := n1_
         have HO293 := n2_
         have HO296 := n3_
         have HO299 := n4_
         have HO302 := n5_
         have BK251 := n6_
         have BK282 := n7_
         have BK289 := n8_
         have HB := n9_
         clear n0_ n1_ n2_ n3_ n4_ n5_ n6_ n7_ n8_ n9_
         have hHeld : w83.cell? ⟨gb282, 0, none⟩ = some (.int .i64 t276) ∧ w83.cell? ⟨gb282, 1, none⟩ = some (.int .i64 t277) ∧ w83.cell? ⟨gb282, 2, none⟩ = some (.int .i64 t278) ∧ w83.cell? ⟨gb289, 0, none⟩ = some (.int .i64 t283) ∧ w83.cell? ⟨gb289, 1, none⟩ = some (.int .i64 t284) ∧ w83.cell? ⟨gb289, 2, none⟩ = some (.int .i64 t285) := hS_
         refine norm_ (a' := ?_) ?_ ?_
         rotate_left
         ·
          simp only [putAll, Act.put, List.setIfInBounds_toArray, List.set_cons_zero, List.set_cons_succ]
          rfl
         refine pure_ (i := 30) (N := some 106) (v := ?_) (a' := ?_) #[true, true, true, true, true, true, true, true, true, true, true, true, true, true, true, true, true, true, true, true, true, true, true, true, true, true, true, true, true, true, true, false, false, false, false, false] rfl rfl (any_of HT_.out (by kernel_rfl)) (fun _ _ _ h => h) (Or.inl ⟨by rfl, ?_⟩) ?_ ?_
         rotate_left
         ·
          intro w'
          go_simp
          with_reducible rfl
         rotate_left
         ·
          simp only [Act.put, List.setIfInBounds_toArray, List.set_cons_zero, List.set_cons_succ, i64_w, i32_w]
          rfl
         refine pure_ (i := 31) (N := some 107) (v := ?_) (a' := ?_) #[true, true, true, true, true, true, true, true, true, true, true, true, true, true, true, true, true, true, true, true, true, true, true, true, true, true, true, true, true, true, true, true, false, false, false, false] rfl rfl (any_of HT_.out (by kernel_rfl)) (fun _ _ _ h => h) (Or.inl ⟨by rfl, ?_⟩) ?_ ?_
         rotate_left
         ·
          intro w'
          go_simp
          with_reducible rfl
         rotate_left
         ·
          simp only [Act.put, List.setIfInBounds_toArray, List.set_cons_zero, List.set_cons_succ, i64_w, i32_w]
          rfl
         refine pure_ (i := 32) (N := some 108) (v := ?_) (a' := ?_) #[true, true, true, true, true, true, true, true, true, true, true, true, true, true, true, true, true, true, true, true, true, true, true, true, true, true, true, true, true, true, true, true, true, false, false, false] rfl rfl (any_of HT_.out (by kernel_rfl)) (fun _ _ _ h => h) (Or.inl ⟨by rfl, ?_⟩) ?_ ?_
         rotate_left
         ·
          intro w'
          go_simp
          with_reducible rfl
         rotate_left
         ·
          simp only [Act.put, List.setIfInBounds_toArray, List.set_cons_zero, List.set_cons_succ, i64_w, i32_w]
          rfl
         refine one_ (i := 33) (N := some 109) #[true, true, true, true, true, true, true, true, true, true, true, true, true, true, true, true, true, true, true, true, true, true, true, true, true, true, true, true, true, true, true, true, true, true, false, false] rfl rfl (one_of HT_.out (by kernel_rfl)) (by decide) (fun K hK => ?_)
         refine goes_ Try.func9 (by kernel_rfl) rfl #[] (by rfl) rfl rfl (by (try simp only [List.map_toArray, List.map_cons, List.map_nil]); first | done | rfl | (simp only [List.length_drop, List.length_take]; rfl)) ?_
         with_reducible refine (polyptychlaw1_awake.calls k1  t303 _ A59.out).mono ?_
         rintro e w84 ⟨rfl, hb⟩
         refine ⟨_, rfl, ?_⟩
         have n0_ := Aside0.mk (Kd.R_below (by (with_reducible repeat (first | apply Kd.R_alloc | apply Kd.R_drewN | apply Kd.R_drew)); exact HO281.out) hb)
         have n1_ := Aside0.mk (Kd.R_below (by (with_reducible repeat (first | apply Kd.R_alloc | apply Kd.R_drewN | apply Kd.R_drew)); exact HO288.out) hb)
         have n2_ := Aside0.mk (Kd.R_below (by (with_reducible repeat (first | apply Kd.R_alloc | apply Kd.R_drewN | apply Kd.R_drew)); exact HO293.out) hb)
         have n3_ := Aside0.mk (Kd.R_below (by (with_reducible repeat (first | apply Kd.R_alloc | apply Kd.R_drewN | apply Kd.R_drew)); exact HO296.out) hb)
         have n4_ := Aside0.mk (Kd.R_below (by (with_reducible repeat (first | apply Kd.R_alloc | apply Kd.R_drewN | apply Kd.R_drew)); exact HO299.out) hb)
         have n5_ := Aside0.mk (Kd.R_below (by (with_reducible repeat (first | apply Kd.R_alloc | apply Kd.R_drewN | apply Kd.R_drew)); exact HO302.out) hb)
         have n6_ := Aside0.mk (blk_below (g := gb251) (o := .cells #[.int .i64 x252000_1, .int .i64 x252001_1, .int .i64 x252002_1] 25 (0, 0)) (by (with_reducible repeat (first | refine blk_drewN ?_ _ | refine blk_drew ?_ | refine blk_alloc ?_ _)); exact BK251.out) hb)
         have n7_ := Aside0.mk (blk_below (g := gb282) (o := .cells #[.int .i64 t276, .int .i64 t277, .int .i64 t278] 25 (0, 0)) (by (with_reducible repeat (first | refine blk_drewN ?_ _ | refine blk_drew ?_ | refine blk_alloc ?_ _)); exact BK282.out) hb)
         have n8_ := Aside0.mk (blk_below (g := gb289) (o := .cells #[.int .i64 t283, .int .i64 t284, .int .i64 t285] 25 (0, 0)) (by (with_reducible repeat (first | refine blk_drewN ?_ _ | refine blk_drew ?_ | refine blk_alloc ?_ _)); exact BK289.out) hb)
         have n9_ := Aside0.mk (below_step (by repeat (first | (with_reducible first | exact HB.out | apply below_alloc | apply pw_below_drewN | apply below_drew1 | refine below_set ?_ GE251.out | refine below_set ?_ GE282.out | refine below_set ?_ GE289.out) | exact HB.out)) hb)
         clear HO281
         clear HO288
         clear HO293
         clear HO296
         clear HO299
         clear HO302
         clear BK251
         clear BK282
         clear BK289
         clear HB
         have HO281 := n0_
         have HO288 := n1_
         have HO293 := n2_
         have HO296 := n3_
         have HO299 := n4_
         have HO302 := n5_
         have BK251 := n6_
         have BK282 := n7_
         have BK289 := n8_
         have HB := n9_
         clear n0_ n1_ n2_ n3_ n4_ n5_ n6_ n7_ n8_ n9_
         (try clear hb)
         (try clear hb2)
         (try clear hk)
         (try clear hi)
         refine hK.out _ _ ⟨(blk_cell BK282.out 0).trans rfl, (blk_cell BK282.out 1).trans rfl, (blk_cell BK282.out 2).trans rfl, (blk_cell BK289.out 0).trans rfl, (blk_cell BK289.out 1).trans rfl, (blk_cell BK289.out 2).trans rfl⟩ (fun hHeld => ?_)
         clear hK K
         refine norm_ (a' := ?_) ?_ ?_
         rotate_left
         ·
          show Act.put _ (some 109) _ = _
          simp only [Act.put, List.setIfInBounds_toArray, List.set_cons_zero, List.set_cons_succ, i64_w, i32_w]
          rfl
         refine pure_ (i := 34) (N := some 110) (v := ?_) (a' := ?_) #[true, true, true, true, true, true, true, true, true, true, true, true, true, true, true, true, true, true, true, true, true, true, true, true, true, true, true, true, true, true, true, true, true, true, true, false] rfl rfl (any_of HT_.out (by kernel_rfl)) (fun _ _ _ h => h) (Or.inl ⟨by rfl, ?_⟩) ?_ ?_
         rotate_left
         ·
          intro w'
          go_simp
          with_reducible rfl
         rotate_left
         ·
          simp only [Act.put, List.setIfInBounds_toArray, List.set_cons_zero, List.set_cons_succ, i64_w, i32_w]
          rfl
         refine pure_ (i := 35) (N := some 6) (v := ?_) (a' := ?_) #[true, true, true, true, true, true, true, true, true, true, true, true, true, true, true, true, true, true, true, true, true, true, true, true, true, true, true, true, true, true, true, true, true, true, true, true] rfl rfl (any_of HT_.out (by kernel_rfl)) (fun _ _ _ h => h) (Or.inl ⟨by rfl, ?_⟩) ?_ ?_
         rotate_left
         ·
          intro w'
          go_simp
          with_reducible rfl
         rotate_left
         ·
          simp only [Act.put, List.setIfInBounds_toArray, List.set_cons_zero, List.set_cons_succ, i64_w, i32_w]
          rfl
         refine done_ (done_of HT_.out (by kernel_rfl)) ?_
         try go_wp2
         go_ret
         exact ⟨by first | rfl | (simp [errW_none, errW_some] <;> rfl) | (simp [*, errW_none, errW_some] <;> rfl), by repeat (first | (with_reducible first | exact HB.out | apply below_alloc | apply pw_below_drewN | apply below_drew1 | refine below_set ?_ GE251.out | refine below_set ?_ GE282.out | refine below_set ?_ GE289.out) | exact HB.out)⟩
        ·
         rw [if_neg c58] at H
         have c58b0 : ((strOfNums t297).toList == (strOfNums t300).toList) = false := beq_eq_false_iff_ne.mpr c58
         have c58b1 : ((strOfNums t297).toList != (strOfNums t300).toList) = true := bne_iff_ne.mpr c58
         exact absurd ((Option.some.inj H).trans hT_.out) (by decide)
       ·
        rw [if_neg c55] at H
        have c55b0 : ((strOfNums t291).toList == (strOfNums t294).toList) = false := beq_eq_false_iff_ne.mpr c55
        have c55b1 : ((strOfNums t291).toList != (strOfNums t294).toList) = true := bne_iff_ne.mpr c55
        exact absurd ((Option.some.inj H).trans hT_.out) (by decide)
      ·
       replace c52 := Bool.eq_false_iff.mpr c52
       subst c52
       have H1 : (some false) = some r := by rw [if_neg (show ¬ (false = true) by decide)] at H; exact H
       clear H
       have H := H1
       clear H1
       exact absurd ((Option.some.inj H).trans hT_.out) (by decide)
     ·
      rw [if_neg c50] at H
      have c50b0 : (t276 == t283 && (t277 == t284 && (t278 == t285))) = false := by simpa using c50
      (try (have c50b1 : decide (t276 = t283 && (t277 == t284 && (t278 == t285))) = false := by simpa using c50))
      (try (have c50b2 : (t276 == t283 && (t277 == t284 && (t278 == t285))) = false := by simpa using c50))
      (try (have c50b3 : ¬ (t276 = t283 && (t277 == t284 && (t278 == t285))) := by simpa using c50))
      clear c50
      exact absurd ((Option.some.inj H).trans hT_.out) (by decide)

/-- THE ONE PURE STATEMENT of polyptychlaw1_UtfdTells: yours. -/
def polyptychlaw1_UtfdTells.Pure : Prop := ∀ (l0 : List Int) (a1 : Int) (a2 : Int), l0.length ≤ maxLen → l0.length * 1 ≤ 140737488351232 → (∀ x ∈ l0, (Lit.int .u8 x).wf = true) → (Lit.int .u8 a1).wf = true → (Lit.int .i64 a2).wf = true → ∃ k, polyptychlaw1_UtfdTells.f k l0 a1 a2 = some true
theorem polyptychlaw1_UtfdTells.walk (P : polyptychlaw1_UtfdTells.Pure) (a0 : Option Addr) (len0 cap0 : Nat) (z0 : List Int) (a1 : Int) (a2 : Int) (w : World) (w0 : (a0 = none ∧ len0 = 0 ∧ cap0 = 0 ∧ z0 = []) ∨ ∃ x, a0 = some x ∧ len0 ≤ cap0 ∧ cap0 ≤ maxLen ∧ z0.length = cap0 ∧ (∀ i, i < z0.length → w.cell? (x.add i) = some (.int .u8 (z0.getD i 0))) ∧ ∀ n ∈ z0, (Lit.int .u8 n).wf = true) (y0 : len0 * 1 ≤ 140737488351232) (w1 : (Lit.int .u8 a1).wf = true) (w2 : (Lit.int .i64 a2).wf = true) :
  Calls Try.prog 5 #[.slice a0 len0 cap0, .int .u8 a1, .int .i64 a2] w fun e w' => e = .returned (.bool true) ∧ Below w.heap.size w w' := by
 obtain ⟨l0, rfl, hr0, hm0, hw0, hc0⟩ := ReadsInt.ofRowC w0
 obtain ⟨k, h⟩ := P l0 a1 a2 hm0 y0 hw0 w1 w2
 refine (polyptychlaw1_UtfdTells.calls k _ _ l0 a1 a2 true w (Kd.C_of_reads (d := (0 : Int)) (h1 := fun _ => rfl) hr0) hc0 h (Aside0.mk rfl)).mono ?_
 rintro e w' ⟨rfl, hd⟩
 exact ⟨rfl, hd⟩

end Go.Proofs.Ytdfklcbcidopfaa.PUtfdTells
