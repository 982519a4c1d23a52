/- RatiForms: shares at the edges are what they should be: for every number of a row, without a condition. -/
import Derived.Test.YtdkpohnjcbmnoaaRatiBase
namespace Go.Proofs.Ytdkpohnjcbmnoaa.RatiFormsW
open Go.RowKit Go.Proofs.YtdkpohnjcbmnoaaKit Go.Proofs.Ytdkpohnjcbmnoaa.RatiBase
set_option linter.unusedVariables false
set_option linter.unusedSimpArgs false
theorem run_store_float (P : Program) (w : World) (a : Addr) (m : Mode) (k : FloatKind) (b : Nat) : (store a (.float k b) m).run P w = stored P w a (.float k b) m := run_store P w a _ m rfl
attribute [local go_sem] run_store_float Ext.cell Ext.frozen
theorem index_cases (n : Int) : ∃ k : Fin 23, (Go.bits .and .i64 n 255).tmod 23 = ((k.val : Nat) : Int) := by
  have h : 0 ≤ Go.bits .and .i64 n 255 ∧ Go.bits .and .i64 n 255 ≤ 255 := and_range 8 (by omega) n
  have e : (Go.bits .and .i64 n 255).tmod 23 = Go.bits .and .i64 n 255 % 23 := Int.tmod_eq_emod_of_nonneg h.1
  exact ⟨⟨(Go.bits .and .i64 n 255 % 23).toNat, by omega⟩, by rw [e]; simp only []; omega⟩
theorem part0 : partV 10 0 = some 0 := by kernel_rfl
theorem part1 : partV 10 9223372036854775808 = some 0 := by kernel_rfl
theorem part2 : partV 10 4607182418800017408 = some 10 := by kernel_rfl
theorem part3 : partV 10 4602678819172646912 = some 5 := by kernel_rfl
theorem part4 : partV 11 4602678819172646912 = some 5 := by kernel_rfl
theorem part5 : partV 10 4607092346807469998 = some 9 := by kernel_rfl
theorem part6 : partV 10 4607182418800008401 = some 9 := by kernel_rfl
theorem part7 : partV 10 4607182418800467768 = some 10 := by kernel_rfl
theorem part8 : partV 10 4619567317775286272 = some 10 := by kernel_rfl
theorem part9 : partV 10 13770379158873719597 = some 0 := by kernel_rfl
theorem part10 : partV 10 9218868437227405312 = some 10 := by kernel_rfl
theorem part11 : partV 10 18442240474082181120 = some 0 := by kernel_rfl
theorem part12 : partV 10 9221120237041090561 = some 5 := by kernel_rfl
theorem part13 : partV 11 9221120237041090561 = some 5 := by kernel_rfl
theorem part14 : partV 0 9221120237041090561 = some 0 := by kernel_rfl
theorem part15 : partV 0 4607182418800017408 = some 0 := by kernel_rfl
theorem part16 : partV (-5) 4607182418800017408 = some 0 := by kernel_rfl
theorem part17 : partV 20000 4602678819172646912 = some 5000 := by kernel_rfl
theorem part18 : partV 20000 9221120237041090561 = some 5000 := by kernel_rfl
theorem part19 : partV 3 4599676419421066581 = some 1 := by kernel_rfl
theorem part20 : partV 10 1 = some 0 := by kernel_rfl
theorem part21 : partV 10 9218868437227405311 = some 10 := by kernel_rfl
theorem part22 : partV 10000 4547007122018943789 = some 1 := by kernel_rfl
set_option maxHeartbeats 8000000 in
set_option maxRecDepth 100000 in
theorem walk (n : Int) (w : World) :
    Calls Try.prog 3 #[.int .i64 n] w fun e w' => e = .returned (.bool true) ∧ Below w.heap.size w w' := by
  have qc := hide copy_calls; have qn := hide nan_calls; have qi := hide inf_calls; have qm := hide ninf_calls
  go_enter Try.func3, Try.ntmps3
  go_upto_region 3 with (first
   | (go_at_call 7; with_reducible refine (qc.out _).mono ?_; rintro e v ⟨rfl, hv⟩; subst v)
   | (go_at_call 9; with_reducible refine (qn.out _).mono ?_; rintro e v ⟨rfl, hv⟩; subst v)
   | (go_at_call 8; with_reducible refine (qi.out _).mono ?_; rintro e v ⟨rfl, hv⟩; subst v)
   | (go_at_call 8; with_reducible refine (qm.out _).mono ?_; rintro e v ⟨rfl, hv⟩; subst v))

  apply wp_letter1 (w.heap.size) w (w.heap.size) 24
  case h0 => (repeat (first | (with_reducible assumption) | (with_reducible apply bs_same) | (with_reducible apply bs_far; case hp => (dsimp only; omega)) | (with_reducible apply bs_drew) | (with_reducible apply bs_drewN) | (with_reducible apply bs_new; (first | (with_reducible rfl) | (simp; done))) | (with_reducible apply bs_alloc) | (with_reducible apply bs_below; (case hb => with_reducible assumption); (case hB => first | omega | (simp; omega) | (simp; done)))))
  case hb => (repeat (first | (with_reducible assumption) | with_reducible exact be_refl _ | (with_reducible refine be_set ?_ (by dsimp only; omega)) | (with_reducible apply be_drew) | (with_reducible apply be_drewN) | (with_reducible refine be_alloc ?_ (by first | omega | (simp; omega) | simp)) | (with_reducible refine be_call (by with_reducible assumption) (by first | omega | (simp; omega) | simp) ?_)))
  intro w1_ k1_0 HB1
  have s1_0 := bs_lt k1_0
  have fz := fun i => bs_frozen k1_0 i
  obtain ⟨k, hk⟩ := index_cases n
  obtain ⟨k, hlt⟩ := k
  rcases (show k = 0 ∨ k = 1 ∨ k = 2 ∨ k = 3 ∨ k = 4 ∨ k = 5 ∨ k = 6 ∨ k = 7 ∨ k = 8 ∨ k = 9 ∨ k = 10 ∨ k = 11 ∨ k = 12 ∨ k = 13 ∨ k = 14 ∨ k = 15 ∨ k = 16 ∨ k = 17 ∨ k = 18 ∨ k = 19 ∨ k = 20 ∨ k = 21 ∨ k = 22 by omega) with rfl | rfl | rfl | rfl | rfl | rfl | rfl | rfl | rfl | rfl | rfl | rfl | rfl | rfl | rfl | rfl | rfl | rfl | rfl | rfl | rfl | rfl | rfl
  · have hk1 : (Go.bits .and .i64 n 255).tmod 23 = 0 := hk
    clear hk
    have g0 := (bs_cell k1_0 0).trans rfl
    have g1 := (bs_cell k1_0 1).trans rfl
    have g2 := (bs_cell k1_0 2).trans rfl
    clear k1_0
    go_upto_region 4 with fail
    apply wp_letter1 (w.heap.size) w (w1_.heap.size) 24
    case h0 => (repeat (first | (with_reducible assumption) | (with_reducible apply bs_same) | (with_reducible apply bs_far; case hp => (dsimp only; omega)) | (with_reducible apply bs_drew) | (with_reducible apply bs_drewN) | (with_reducible apply bs_new; (first | (with_reducible rfl) | (simp; done))) | (with_reducible apply bs_alloc) | (with_reducible apply bs_below; (case hb => with_reducible assumption); (case hB => first | omega | (simp; omega) | (simp; done)))))
    case hb => (repeat (first | (with_reducible assumption) | with_reducible exact be_refl _ | (with_reducible refine be_set ?_ (by dsimp only; omega)) | (with_reducible apply be_drew) | (with_reducible apply be_drewN) | (with_reducible refine be_alloc ?_ (by first | omega | (simp; omega) | simp)) | (with_reducible refine be_call (by with_reducible assumption) (by first | omega | (simp; omega) | simp) ?_)))
    intro w1_ k1_0 HB1
    try simp only [List.setIfInBounds_toArray, List.set_cons_zero, List.set_cons_succ] at k1_0
    clear g0 g1 g2 fz
    obtain ⟨c1_0_0, c1_0_1, c1_0_2, f1_0⟩ := cells3 k1_0
    have s1_0 := bs_lt k1_0
    have p := hide (fun w => part_calls 10 0 0 w part0)
    refine wp_region_fresh_lit (by kernel_rfl) (by kernel_rfl) ?_
    repeat (quiet_step (fail))
    quiet_step ((go_at_call 10; apply fresh_eq; with_reducible exact p.out _))
    repeat (quiet_step (fail))
    quiet_step ((go_at_call 11; apply fresh_eq; with_reducible exact awake_calls _))
    repeat (quiet_step (fail))
    refine wpQuiet_nil ?_
    rintro _ ⟨⟨W6, hb6⟩, rfl⟩
    (try dsimp only)
    have y6 := hb6.size
    go_wp2
    go_ret
    exact ⟨rfl, by (repeat (first | (with_reducible assumption) | with_reducible exact be_refl _ | (with_reducible refine be_set ?_ (by dsimp only; omega)) | (with_reducible apply be_drew) | (with_reducible apply be_drewN) | (with_reducible refine be_alloc ?_ (by first | omega | (simp; omega) | simp)) | (with_reducible refine be_call (by with_reducible assumption) (by first | omega | (simp; omega) | simp) ?_)))⟩
  · have hk1 : (Go.bits .and .i64 n 255).tmod 23 = 1 := hk
    clear hk
    have g0 := (bs_cell k1_0 3).trans rfl
    have g1 := (bs_cell k1_0 4).trans rfl
    have g2 := (bs_cell k1_0 5).trans rfl
    clear k1_0
    go_upto_region 4 with fail
    apply wp_letter1 (w.heap.size) w (w1_.heap.size) 24
    case h0 => (repeat (first | (with_reducible assumption) | (with_reducible apply bs_same) | (with_reducible apply bs_far; case hp => (dsimp only; omega)) | (with_reducible apply bs_drew) | (with_reducible apply bs_drewN) | (with_reducible apply bs_new; (first | (with_reducible rfl) | (simp; done))) | (with_reducible apply bs_alloc) | (with_reducible apply bs_below; (case hb => with_reducible assumption); (case hB => first | omega | (simp; omega) | (simp; done)))))
    case hb => (repeat (first | (with_reducible assumption) | with_reducible exact be_refl _ | (with_reducible refine be_set ?_ (by dsimp only; omega)) | (with_reducible apply be_drew) | (with_reducible apply be_drewN) | (with_reducible refine be_alloc ?_ (by first | omega | (simp; omega) | simp)) | (with_reducible refine be_call (by with_reducible assumption) (by first | omega | (simp; omega) | simp) ?_)))
    intro w2_ k2_0 HB2
    try simp only [List.setIfInBounds_toArray, List.set_cons_zero, List.set_cons_succ] at k2_0
    clear g0 g1 g2 fz
    obtain ⟨c2_0_0, c2_0_1, c2_0_2, f2_0⟩ := cells3 k2_0
    have s2_0 := bs_lt k2_0
    have p := hide (fun w => part_calls 10 9223372036854775808 0 w part1)
    refine wp_region_fresh_lit (by kernel_rfl) (by kernel_rfl) ?_
    repeat (quiet_step (fail))
    quiet_step ((go_at_call 10; apply fresh_eq; with_reducible exact p.out _))
    repeat (quiet_step (fail))
    quiet_step ((go_at_call 11; apply fresh_eq; with_reducible exact awake_calls _))
    repeat (quiet_step (fail))
    refine wpQuiet_nil ?_
    rintro _ ⟨⟨W6, hb6⟩, rfl⟩
    (try dsimp only)
    have y6 := hb6.size
    go_wp2
    go_ret
    exact ⟨rfl, by (repeat (first | (with_reducible assumption) | with_reducible exact be_refl _ | (with_reducible refine be_set ?_ (by dsimp only; omega)) | (with_reducible apply be_drew) | (with_reducible apply be_drewN) | (with_reducible refine be_alloc ?_ (by first | omega | (simp; omega) | simp)) | (with_reducible refine be_call (by with_reducible assumption) (by first | omega | (simp; omega) | simp) ?_)))⟩
  · have hk1 : (Go.bits .and .i64 n 255).tmod 23 = 2 := hk
    clear hk
    have g0 := (bs_cell k1_0 6).trans rfl
    have g1 := (bs_cell k1_0 7).trans rfl
    have g2 := (bs_cell k1_0 8).trans rfl
    clear k1_0
    go_upto_region 4 with fail
    apply wp_letter1 (w.heap.size) w (w1_.heap.size) 24
    case h0 => (repeat (first | (with_reducible assumption) | (with_reducible apply bs_same) | (with_reducible apply bs_far; case hp => (dsimp only; omega)) | (with_reducible apply bs_drew) | (with_reducible apply bs_drewN) | (with_reducible apply bs_new; (first | (with_reducible rfl) | (simp; done))) | (with_reducible apply bs_alloc) | (with_reducible apply bs_below; (case hb => with_reducible assumption); (case hB => first | omega | (simp; omega) | (simp; done)))))
    case hb => (repeat (first | (with_reducible assumption) | with_reducible exact be_refl _ | (with_reducible refine be_set ?_ (by dsimp only; omega)) | (with_reducible apply be_drew) | (with_reducible apply be_drewN) | (with_reducible refine be_alloc ?_ (by first | omega | (simp; omega) | simp)) | (with_reducible refine be_call (by with_reducible assumption) (by first | omega | (simp; omega) | simp) ?_)))
    intro w3_ k3_0 HB3
    try simp only [List.setIfInBounds_toArray, List.set_cons_zero, List.set_cons_succ] at k3_0
    clear g0 g1 g2 fz
    obtain ⟨c3_0_0, c3_0_1, c3_0_2, f3_0⟩ := cells3 k3_0
    have s3_0 := bs_lt k3_0
    have p := hide (fun w => part_calls 10 4607182418800017408 10 w part2)
    refine wp_region_fresh_lit (by kernel_rfl) (by kernel_rfl) ?_
    repeat (quiet_step (fail))
    quiet_step ((go_at_call 10; apply fresh_eq; with_reducible exact p.out _))
    repeat (quiet_step (fail))
    quiet_step ((go_at_call 11; apply fresh_eq; with_reducible exact awake_calls _))
    repeat (quiet_step (fail))
    refine wpQuiet_nil ?_
    rintro _ ⟨⟨W6, hb6⟩, rfl⟩
    (try dsimp only)
    have y6 := hb6.size
    go_wp2
    go_ret
    exact ⟨rfl, by (repeat (first | (with_reducible assumption) | with_reducible exact be_refl _ | (with_reducible refine be_set ?_ (by dsimp only; omega)) | (with_reducible apply be_drew) | (with_reducible apply be_drewN) | (with_reducible refine be_alloc ?_ (by first | omega | (simp; omega) | simp)) | (with_reducible refine be_call (by with_reducible assumption) (by first | omega | (simp; omega) | simp) ?_)))⟩
  · have hk1 : (Go.bits .and .i64 n 255).tmod 23 = 3 := hk
    clear hk
    have g0 := (bs_cell k1_0 9).trans rfl
    have g1 := (bs_cell k1_0 10).trans rfl
    have g2 := (bs_cell k1_0 11).trans rfl
    clear k1_0
    go_upto_region 4 with fail
    apply wp_letter1 (w.heap.size) w (w1_.heap.size) 24
    case h0 => (repeat (first | (with_reducible assumption) | (with_reducible apply bs_same) | (with_reducible apply bs_far; case hp => (dsimp only; omega)) | (with_reducible apply bs_drew) | (with_reducible apply bs_drewN) | (with_reducible apply bs_new; (first | (with_reducible rfl) | (simp; done))) | (with_reducible apply bs_alloc) | (with_reducible apply bs_below; (case hb => with_reducible assumption); (case hB => first | omega | (simp; omega) | (simp; done)))))
    case hb => (repeat (first | (with_reducible assumption) | with_reducible exact be_refl _ | (with_reducible refine be_set ?_ (by dsimp only; omega)) | (with_reducible apply be_drew) | (with_reducible apply be_drewN) | (with_reducible refine be_alloc ?_ (by first | omega | (simp; omega) | simp)) | (with_reducible refine be_call (by with_reducible assumption) (by first | omega | (simp; omega) | simp) ?_)))
    intro w4_ k4_0 HB4
    try simp only [List.setIfInBounds_toArray, List.set_cons_zero, List.set_cons_succ] at k4_0
    clear g0 g1 g2 fz
    obtain ⟨c4_0_0, c4_0_1, c4_0_2, f4_0⟩ := cells3 k4_0
    have s4_0 := bs_lt k4_0
    have p := hide (fun w => part_calls 10 4602678819172646912 5 w part3)
    refine wp_region_fresh_lit (by kernel_rfl) (by kernel_rfl) ?_
    repeat (quiet_step (fail))
    quiet_step ((go_at_call 10; apply fresh_eq; with_reducible exact p.out _))
    repeat (quiet_step (fail))
    quiet_step ((go_at_call 11; apply fresh_eq; with_reducible exact awake_calls _))
    repeat (quiet_step (fail))
    refine wpQuiet_nil ?_
    rintro _ ⟨⟨W6, hb6⟩, rfl⟩
    (try dsimp only)
    have y6 := hb6.size
    go_wp2
    go_ret
    exact ⟨rfl, by (repeat (first | (with_reducible assumption) | with_reducible exact be_refl _ | (with_reducible refine be_set ?_ (by dsimp only; omega)) | (with_reducible apply be_drew) | (with_reducible apply be_drewN) | (with_reducible refine be_alloc ?_ (by first | omega | (simp; omega) | simp)) | (with_reducible refine be_call (by with_reducible assumption) (by first | omega | (simp; omega) | simp) ?_)))⟩
  · have hk1 : (Go.bits .and .i64 n 255).tmod 23 = 4 := hk
    clear hk
    have g0 := (bs_cell k1_0 12).trans rfl
    have g1 := (bs_cell k1_0 13).trans rfl
    have g2 := (bs_cell k1_0 14).trans rfl
    clear k1_0
    go_upto_region 4 with fail
    apply wp_letter1 (w.heap.size) w (w1_.heap.size) 24
    case h0 => (repeat (first | (with_reducible assumption) | (with_reducible apply bs_same) | (with_reducible apply bs_far; case hp => (dsimp only; omega)) | (with_reducible apply bs_drew) | (with_reducible apply bs_drewN) | (with_reducible apply bs_new; (first | (with_reducible rfl) | (simp; done))) | (with_reducible apply bs_alloc) | (with_reducible apply bs_below; (case hb => with_reducible assumption); (case hB => first | omega | (simp; omega) | (simp; done)))))
    case hb => (repeat (first | (with_reducible assumption) | with_reducible exact be_refl _ | (with_reducible refine be_set ?_ (by dsimp only; omega)) | (with_reducible apply be_drew) | (with_reducible apply be_drewN) | (with_reducible refine be_alloc ?_ (by first | omega | (simp; omega) | simp)) | (with_reducible refine be_call (by with_reducible assumption) (by first | omega | (simp; omega) | simp) ?_)))
    intro w5_ k5_0 HB5
    try simp only [List.setIfInBounds_toArray, List.set_cons_zero, List.set_cons_succ] at k5_0
    clear g0 g1 g2 fz
    obtain ⟨c5_0_0, c5_0_1, c5_0_2, f5_0⟩ := cells3 k5_0
    have s5_0 := bs_lt k5_0
    have p := hide (fun w => part_calls 11 4602678819172646912 5 w part4)
    refine wp_region_fresh_lit (by kernel_rfl) (by kernel_rfl) ?_
    repeat (quiet_step (fail))
    quiet_step ((go_at_call 10; apply fresh_eq; with_reducible exact p.out _))
    repeat (quiet_step (fail))
    quiet_step ((go_at_call 11; apply fresh_eq; with_reducible exact awake_calls _))
    repeat (quiet_step (fail))
    refine wpQuiet_nil ?_
    rintro _ ⟨⟨W6, hb6⟩, rfl⟩
    (try dsimp only)
    have y6 := hb6.size
    go_wp2
    go_ret
    exact ⟨rfl, by (repeat (first | (with_reducible assumption) | with_reducible exact be_refl _ | (with_reducible refine be_set ?_ (by dsimp only; omega)) | (with_reducible apply be_drew) | (with_reducible apply be_drewN) | (with_reducible refine be_alloc ?_ (by first | omega | (simp; omega) | simp)) | (with_reducible refine be_call (by with_reducible assumption) (by first | omega | (simp; omega) | simp) ?_)))⟩
  · have hk1 : (Go.bits .and .i64 n 255).tmod 23 = 5 := hk
    clear hk
    have g0 := (bs_cell k1_0 15).trans rfl
    have g1 := (bs_cell k1_0 16).trans rfl
    have g2 := (bs_cell k1_0 17).trans rfl
    clear k1_0
    go_upto_region 4 with fail
    apply wp_letter1 (w.heap.size) w (w1_.heap.size) 24
    case h0 => (repeat (first | (with_reducible assumption) | (with_reducible apply bs_same) | (with_reducible apply bs_far; case hp => (dsimp only; omega)) | (with_reducible apply bs_drew) | (with_reducible apply bs_drewN) | (with_reducible apply bs_new; (first | (with_reducible rfl) | (simp; done))) | (with_reducible apply bs_alloc) | (with_reducible apply bs_below; (case hb => with_reducible assumption); (case hB => first | omega | (simp; omega) | (simp; done)))))
    case hb => (repeat (first | (with_reducible assumption) | with_reducible exact be_refl _ | (with_reducible refine be_set ?_ (by dsimp only; omega)) | (with_reducible apply be_drew) | (with_reducible apply be_drewN) | (with_reducible refine be_alloc ?_ (by first | omega | (simp; omega) | simp)) | (with_reducible refine be_call (by with_reducible assumption) (by first | omega | (simp; omega) | simp) ?_)))
    intro w6_ k6_0 HB6
    try simp only [List.setIfInBounds_toArray, List.set_cons_zero, List.set_cons_succ] at k6_0
    clear g0 g1 g2 fz
    obtain ⟨c6_0_0, c6_0_1, c6_0_2, f6_0⟩ := cells3 k6_0
    have s6_0 := bs_lt k6_0
    have p := hide (fun w => part_calls 10 4607092346807469998 9 w part5)
    refine wp_region_fresh_lit (by kernel_rfl) (by kernel_rfl) ?_
    repeat (quiet_step (fail))
    quiet_step ((go_at_call 10; apply fresh_eq; with_reducible exact p.out _))
    repeat (quiet_step (fail))
    quiet_step ((go_at_call 11; apply fresh_eq; with_reducible exact awake_calls _))
    repeat (quiet_step (fail))
    refine wpQuiet_nil ?_
    rintro _ ⟨⟨W6, hb6⟩, rfl⟩
    (try dsimp only)
    have y6 := hb6.size
    go_wp2
    go_ret
    exact ⟨rfl, by (repeat (first | (with_reducible assumption) | with_reducible exact be_refl _ | (with_reducible refine be_set ?_ (by dsimp only; omega)) | (with_reducible apply be_drew) | (with_reducible apply be_drewN) | (with_reducible refine be_alloc ?_ (by first | omega | (simp; omega) | simp)) | (with_reducible refine be_call (by with_reducible assumption) (by first | omega | (simp; omega) | simp) ?_)))⟩
  · have hk1 : (Go.bits .and .i64 n 255).tmod 23 = 6 := hk
    clear hk
    have g0 := (bs_cell k1_0 18).trans rfl
    have g1 := (bs_cell k1_0 19).trans rfl
    have g2 := (bs_cell k1_0 20).trans rfl
    clear k1_0
    go_upto_region 4 with fail
    apply wp_letter1 (w.heap.size) w (w1_.heap.size) 24
    case h0 => (repeat (first | (with_reducible assumption) | (with_reducible apply bs_same) | (with_reducible apply bs_far; case hp => (dsimp only; omega)) | (with_reducible apply bs_drew) | (with_reducible apply bs_drewN) | (with_reducible apply bs_new; (first | (with_reducible rfl) | (simp; done))) | (with_reducible apply bs_alloc) | (with_reducible apply bs_below; (case hb => with_reducible assumption); (case hB => first | omega | (simp; omega) | (simp; done)))))
    case hb => (repeat (first | (with_reducible assumption) | with_reducible exact be_refl _ | (with_reducible refine be_set ?_ (by dsimp only; omega)) | (with_reducible apply be_drew) | (with_reducible apply be_drewN) | (with_reducible refine be_alloc ?_ (by first | omega | (simp; omega) | simp)) | (with_reducible refine be_call (by with_reducible assumption) (by first | omega | (simp; omega) | simp) ?_)))
    intro w7_ k7_0 HB7
    try simp only [List.setIfInBounds_toArray, List.set_cons_zero, List.set_cons_succ] at k7_0
    clear g0 g1 g2 fz
    obtain ⟨c7_0_0, c7_0_1, c7_0_2, f7_0⟩ := cells3 k7_0
    have s7_0 := bs_lt k7_0
    have p := hide (fun w => part_calls 10 4607182418800008401 9 w part6)
    refine wp_region_fresh_lit (by kernel_rfl) (by kernel_rfl) ?_
    repeat (quiet_step (fail))
    quiet_step ((go_at_call 10; apply fresh_eq; with_reducible exact p.out _))
    repeat (quiet_step (fail))
    quiet_step ((go_at_call 11; apply fresh_eq; with_reducible exact awake_calls _))
    repeat (quiet_step (fail))
    refine wpQuiet_nil ?_
    rintro _ ⟨⟨W6, hb6⟩, rfl⟩
    (try dsimp only)
    have y6 := hb6.size
    go_wp2
    go_ret
    exact ⟨rfl, by (repeat (first | (with_reducible assumption) | with_reducible exact be_refl _ | (with_reducible refine be_set ?_ (by dsimp only; omega)) | (with_reducible apply be_drew) | (with_reducible apply be_drewN) | (with_reducible refine be_alloc ?_ (by first | omega | (simp; omega) | simp)) | (with_reducible refine be_call (by with_reducible assumption) (by first | omega | (simp; omega) | simp) ?_)))⟩
  · have hk1 : (Go.bits .and .i64 n 255).tmod 23 = 7 := hk
    clear hk
    have g0 := (bs_cell k1_0 21).trans rfl
    have g1 := (bs_cell k1_0 22).trans rfl
    have g2 := (bs_cell k1_0 23).trans rfl
    clear k1_0
    go_upto_region 4 with fail
    apply wp_letter1 (w.heap.size) w (w1_.heap.size) 24
    case h0 => (repeat (first | (with_reducible assumption) | (with_reducible apply bs_same) | (with_reducible apply bs_far; case hp => (dsimp only; omega)) | (with_reducible apply bs_drew) | (with_reducible apply bs_drewN) | (with_reducible apply bs_new; (first | (with_reducible rfl) | (simp; done))) | (with_reducible apply bs_alloc) | (with_reducible apply bs_below; (case hb => with_reducible assumption); (case hB => first | omega | (simp; omega) | (simp; done)))))
    case hb => (repeat (first | (with_reducible assumption) | with_reducible exact be_refl _ | (with_reducible refine be_set ?_ (by dsimp only; omega)) | (with_reducible apply be_drew) | (with_reducible apply be_drewN) | (with_reducible refine be_alloc ?_ (by first | omega | (simp; omega) | simp)) | (with_reducible refine be_call (by with_reducible assumption) (by first | omega | (simp; omega) | simp) ?_)))
    intro w8_ k8_0 HB8
    try simp only [List.setIfInBounds_toArray, List.set_cons_zero, List.set_cons_succ] at k8_0
    clear g0 g1 g2 fz
    obtain ⟨c8_0_0, c8_0_1, c8_0_2, f8_0⟩ := cells3 k8_0
    have s8_0 := bs_lt k8_0
    have p := hide (fun w => part_calls 10 4607182418800467768 10 w part7)
    refine wp_region_fresh_lit (by kernel_rfl) (by kernel_rfl) ?_
    repeat (quiet_step (fail))
    quiet_step ((go_at_call 10; apply fresh_eq; with_reducible exact p.out _))
    repeat (quiet_step (fail))
    quiet_step ((go_at_call 11; apply fresh_eq; with_reducible exact awake_calls _))
    repeat (quiet_step (fail))
    refine wpQuiet_nil ?_
    rintro _ ⟨⟨W6, hb6⟩, rfl⟩
    (try dsimp only)
    have y6 := hb6.size
    go_wp2
    go_ret
    exact ⟨rfl, by (repeat (first | (with_reducible assumption) | with_reducible exact be_refl _ | (with_reducible refine be_set ?_ (by dsimp only; omega)) | (with_reducible apply be_drew) | (with_reducible apply be_drewN) | (with_reducible refine be_alloc ?_ (by first | omega | (simp; omega) | simp)) | (with_reducible refine be_call (by with_reducible assumption) (by first | omega | (simp; omega) | simp) ?_)))⟩
  · have hk1 : (Go.bits .and .i64 n 255).tmod 23 = 8 := hk
    clear hk
    have g0 := (bs_cell k1_0 24).trans rfl
    have g1 := (bs_cell k1_0 25).trans rfl
    have g2 := (bs_cell k1_0 26).trans rfl
    clear k1_0
    go_upto_region 4 with fail
    apply wp_letter1 (w.heap.size) w (w1_.heap.size) 24
    case h0 => (repeat (first | (with_reducible assumption) | (with_reducible apply bs_same) | (with_reducible apply bs_far; case hp => (dsimp only; omega)) | (with_reducible apply bs_drew) | (with_reducible apply bs_drewN) | (with_reducible apply bs_new; (first | (with_reducible rfl) | (simp; done))) | (with_reducible apply bs_alloc) | (with_reducible apply bs_below; (case hb => with_reducible assumption); (case hB => first | omega | (simp; omega) | (simp; done)))))
    case hb => (repeat (first | (with_reducible assumption) | with_reducible exact be_refl _ | (with_reducible refine be_set ?_ (by dsimp only; omega)) | (with_reducible apply be_drew) | (with_reducible apply be_drewN) | (with_reducible refine be_alloc ?_ (by first | omega | (simp; omega) | simp)) | (with_reducible refine be_call (by with_reducible assumption) (by first | omega | (simp; omega) | simp) ?_)))
    intro w9_ k9_0 HB9
    try simp only [List.setIfInBounds_toArray, List.set_cons_zero, List.set_cons_succ] at k9_0
    clear g0 g1 g2 fz
    obtain ⟨c9_0_0, c9_0_1, c9_0_2, f9_0⟩ := cells3 k9_0
    have s9_0 := bs_lt k9_0
    have p := hide (fun w => part_calls 10 4619567317775286272 10 w part8)
    refine wp_region_fresh_lit (by kernel_rfl) (by kernel_rfl) ?_
    repeat (quiet_step (fail))
    quiet_step ((go_at_call 10; apply fresh_eq; with_reducible exact p.out _))
    repeat (quiet_step (fail))
    quiet_step ((go_at_call 11; apply fresh_eq; with_reducible exact awake_calls _))
    repeat (quiet_step (fail))
    refine wpQuiet_nil ?_
    rintro _ ⟨⟨W6, hb6⟩, rfl⟩
    (try dsimp only)
    have y6 := hb6.size
    go_wp2
    go_ret
    exact ⟨rfl, by (repeat (first | (with_reducible assumption) | with_reducible exact be_refl _ | (with_reducible refine be_set ?_ (by dsimp only; omega)) | (with_reducible apply be_drew) | (with_reducible apply be_drewN) | (with_reducible refine be_alloc ?_ (by first | omega | (simp; omega) | simp)) | (with_reducible refine be_call (by with_reducible assumption) (by first | omega | (simp; omega) | simp) ?_)))⟩
  · have hk1 : (Go.bits .and .i64 n 255).tmod 23 = 9 := hk
    clear hk
    have g0 := (bs_cell k1_0 27).trans rfl
    have g1 := (bs_cell k1_0 28).trans rfl
    have g2 := (bs_cell k1_0 29).trans rfl
    clear k1_0
    go_upto_region 4 with fail
    apply wp_letter1 (w.heap.size) w (w1_.heap.size) 24
    case h0 => (repeat (first | (with_reducible assumption) | (with_reducible apply bs_same) | (with_reducible apply bs_far; case hp => (dsimp only; omega)) | (with_reducible apply bs_drew) | (with_reducible apply bs_drewN) | (with_reducible apply bs_new; (first | (with_reducible rfl) | (simp; done))) | (with_reducible apply bs_alloc) | (with_reducible apply bs_below; (case hb => with_reducible assumption); (case hB => first | omega | (simp; omega) | (simp; done)))))
    case hb => (repeat (first | (with_reducible assumption) | with_reducible exact be_refl _ | (with_reducible refine be_set ?_ (by dsimp only; omega)) | (with_reducible apply be_drew) | (with_reducible apply be_drewN) | (with_reducible refine be_alloc ?_ (by first | omega | (simp; omega) | simp)) | (with_reducible refine be_call (by with_reducible assumption) (by first | omega | (simp; omega) | simp) ?_)))
    intro w10_ k10_0 HB10
    try simp only [List.setIfInBounds_toArray, List.set_cons_zero, List.set_cons_succ] at k10_0
    clear g0 g1 g2 fz
    obtain ⟨c10_0_0, c10_0_1, c10_0_2, f10_0⟩ := cells3 k10_0
    have s10_0 := bs_lt k10_0
    have p := hide (fun w => part_calls 10 13770379158873719597 0 w part9)
    refine wp_region_fresh_lit (by kernel_rfl) (by kernel_rfl) ?_
    repeat (quiet_step (fail))
    quiet_step ((go_at_call 10; apply fresh_eq; with_reducible exact p.out _))
    repeat (quiet_step (fail))
    quiet_step ((go_at_call 11; apply fresh_eq; with_reducible exact awake_calls _))
    repeat (quiet_step (fail))
    refine wpQuiet_nil ?_
    rintro _ ⟨⟨W6, hb6⟩, rfl⟩
    (try dsimp only)
    have y6 := hb6.size
    go_wp2
    go_ret
    exact ⟨rfl, by (repeat (first | (with_reducible assumption) | with_reducible exact be_refl _ | (with_reducible refine be_set ?_ (by dsimp only; omega)) | (with_reducible apply be_drew) | (with_reducible apply be_drewN) | (with_reducible refine be_alloc ?_ (by first | omega | (simp; omega) | simp)) | (with_reducible refine be_call (by with_reducible assumption) (by first | omega | (simp; omega) | simp) ?_)))⟩
  · have hk1 : (Go.bits .and .i64 n 255).tmod 23 = 10 := hk
    clear hk
    have g0 := (bs_cell k1_0 30).trans rfl
    have g1 := (bs_cell k1_0 31).trans rfl
    have g2 := (bs_cell k1_0 32).trans rfl
    clear k1_0
    go_upto_region 4 with fail
    apply wp_letter1 (w.heap.size) w (w1_.heap.size) 24
    case h0 => (repeat (first | (with_reducible assumption) | (with_reducible apply bs_same) | (with_reducible apply bs_far; case hp => (dsimp only; omega)) | (with_reducible apply bs_drew) | (with_reducible apply bs_drewN) | (with_reducible apply bs_new; (first | (with_reducible rfl) | (simp; done))) | (with_reducible apply bs_alloc) | (with_reducible apply bs_below; (case hb => with_reducible assumption); (case hB => first | omega | (simp; omega) | (simp; done)))))
    case hb => (repeat (first | (with_reducible assumption) | with_reducible exact be_refl _ | (with_reducible refine be_set ?_ (by dsimp only; omega)) | (with_reducible apply be_drew) | (with_reducible apply be_drewN) | (with_reducible refine be_alloc ?_ (by first | omega | (simp; omega) | simp)) | (with_reducible refine be_call (by with_reducible assumption) (by first | omega | (simp; omega) | simp) ?_)))
    intro w11_ k11_0 HB11
    try simp only [List.setIfInBounds_toArray, List.set_cons_zero, List.set_cons_succ] at k11_0
    clear g0 g1 g2 fz
    obtain ⟨c11_0_0, c11_0_1, c11_0_2, f11_0⟩ := cells3 k11_0
    have s11_0 := bs_lt k11_0
    have p := hide (fun w => part_calls 10 9218868437227405312 10 w part10)
    refine wp_region_fresh_lit (by kernel_rfl) (by kernel_rfl) ?_
    repeat (quiet_step (fail))
    quiet_step ((go_at_call 10; apply fresh_eq; with_reducible exact p.out _))
    repeat (quiet_step (fail))
    quiet_step ((go_at_call 11; apply fresh_eq; with_reducible exact awake_calls _))
    repeat (quiet_step (fail))
    refine wpQuiet_nil ?_
    rintro _ ⟨⟨W6, hb6⟩, rfl⟩
    (try dsimp only)
    have y6 := hb6.size
    go_wp2
    go_ret
    exact ⟨rfl, by (repeat (first | (with_reducible assumption) | with_reducible exact be_refl _ | (with_reducible refine be_set ?_ (by dsimp only; omega)) | (with_reducible apply be_drew) | (with_reducible apply be_drewN) | (with_reducible refine be_alloc ?_ (by first | omega | (simp; omega) | simp)) | (with_reducible refine be_call (by with_reducible assumption) (by first | omega | (simp; omega) | simp) ?_)))⟩
  · have hk1 : (Go.bits .and .i64 n 255).tmod 23 = 11 := hk
    clear hk
    have g0 := (bs_cell k1_0 33).trans rfl
    have g1 := (bs_cell k1_0 34).trans rfl
    have g2 := (bs_cell k1_0 35).trans rfl
    clear k1_0
    go_upto_region 4 with fail
    apply wp_letter1 (w.heap.size) w (w1_.heap.size) 24
    case h0 => (repeat (first | (with_reducible assumption) | (with_reducible apply bs_same) | (with_reducible apply bs_far; case hp => (dsimp only; omega)) | (with_reducible apply bs_drew) | (with_reducible apply bs_drewN) | (with_reducible apply bs_new; (first | (with_reducible rfl) | (simp; done))) | (with_reducible apply bs_alloc) | (with_reducible apply bs_below; (case hb => with_reducible assumption); (case hB => first | omega | (simp; omega) | (simp; done)))))
    case hb => (repeat (first | (with_reducible assumption) | with_reducible exact be_refl _ | (with_reducible refine be_set ?_ (by dsimp only; omega)) | (with_reducible apply be_drew) | (with_reducible apply be_drewN) | (with_reducible refine be_alloc ?_ (by first | omega | (simp; omega) | simp)) | (with_reducible refine be_call (by with_reducible assumption) (by first | omega | (simp; omega) | simp) ?_)))
    intro w12_ k12_0 HB12
    try simp only [List.setIfInBounds_toArray, List.set_cons_zero, List.set_cons_succ] at k12_0
    clear g0 g1 g2 fz
    obtain ⟨c12_0_0, c12_0_1, c12_0_2, f12_0⟩ := cells3 k12_0
    have s12_0 := bs_lt k12_0
    have p := hide (fun w => part_calls 10 18442240474082181120 0 w part11)
    refine wp_region_fresh_lit (by kernel_rfl) (by kernel_rfl) ?_
    repeat (quiet_step (fail))
    quiet_step ((go_at_call 10; apply fresh_eq; with_reducible exact p.out _))
    repeat (quiet_step (fail))
    quiet_step ((go_at_call 11; apply fresh_eq; with_reducible exact awake_calls _))
    repeat (quiet_step (fail))
    refine wpQuiet_nil ?_
    rintro _ ⟨⟨W6, hb6⟩, rfl⟩
    (try dsimp only)
    have y6 := hb6.size
    go_wp2
    go_ret
    exact ⟨rfl, by (repeat (first | (with_reducible assumption) | with_reducible exact be_refl _ | (with_reducible refine be_set ?_ (by dsimp only; omega)) | (with_reducible apply be_drew) | (with_reducible apply be_drewN) | (with_reducible refine be_alloc ?_ (by first | omega | (simp; omega) | simp)) | (with_reducible refine be_call (by with_reducible assumption) (by first | omega | (simp; omega) | simp) ?_)))⟩
  · have hk1 : (Go.bits .and .i64 n 255).tmod 23 = 12 := hk
    clear hk
    have g0 := (bs_cell k1_0 36).trans rfl
    have g1 := (bs_cell k1_0 37).trans rfl
    have g2 := (bs_cell k1_0 38).trans rfl
    clear k1_0
    go_upto_region 4 with fail
    apply wp_letter1 (w.heap.size) w (w1_.heap.size) 24
    case h0 => (repeat (first | (with_reducible assumption) | (with_reducible apply bs_same) | (with_reducible apply bs_far; case hp => (dsimp only; omega)) | (with_reducible apply bs_drew) | (with_reducible apply bs_drewN) | (with_reducible apply bs_new; (first | (with_reducible rfl) | (simp; done))) | (with_reducible apply bs_alloc) | (with_reducible apply bs_below; (case hb => with_reducible assumption); (case hB => first | omega | (simp; omega) | (simp; done)))))
    case hb => (repeat (first | (with_reducible assumption) | with_reducible exact be_refl _ | (with_reducible refine be_set ?_ (by dsimp only; omega)) | (with_reducible apply be_drew) | (with_reducible apply be_drewN) | (with_reducible refine be_alloc ?_ (by first | omega | (simp; omega) | simp)) | (with_reducible refine be_call (by with_reducible assumption) (by first | omega | (simp; omega) | simp) ?_)))
    intro w13_ k13_0 HB13
    try simp only [List.setIfInBounds_toArray, List.set_cons_zero, List.set_cons_succ] at k13_0
    clear g0 g1 g2 fz
    obtain ⟨c13_0_0, c13_0_1, c13_0_2, f13_0⟩ := cells3 k13_0
    have s13_0 := bs_lt k13_0
    have p := hide (fun w => part_calls 10 9221120237041090561 5 w part12)
    refine wp_region_fresh_lit (by kernel_rfl) (by kernel_rfl) ?_
    repeat (quiet_step (fail))
    quiet_step ((go_at_call 10; apply fresh_eq; with_reducible exact p.out _))
    repeat (quiet_step (fail))
    quiet_step ((go_at_call 11; apply fresh_eq; with_reducible exact awake_calls _))
    repeat (quiet_step (fail))
    refine wpQuiet_nil ?_
    rintro _ ⟨⟨W6, hb6⟩, rfl⟩
    (try dsimp only)
    have y6 := hb6.size
    go_wp2
    go_ret
    exact ⟨rfl, by (repeat (first | (with_reducible assumption) | with_reducible exact be_refl _ | (with_reducible refine be_set ?_ (by dsimp only; omega)) | (with_reducible apply be_drew) | (with_reducible apply be_drewN) | (with_reducible refine be_alloc ?_ (by first | omega | (simp; omega) | simp)) | (with_reducible refine be_call (by with_reducible assumption) (by first | omega | (simp; omega) | simp) ?_)))⟩
  · have hk1 : (Go.bits .and .i64 n 255).tmod 23 = 13 := hk
    clear hk
    have g0 := (bs_cell k1_0 39).trans rfl
    have g1 := (bs_cell k1_0 40).trans rfl
    have g2 := (bs_cell k1_0 41).trans rfl
    clear k1_0
    go_upto_region 4 with fail
    apply wp_letter1 (w.heap.size) w (w1_.heap.size) 24
    case h0 => (repeat (first | (with_reducible assumption) | (with_reducible apply bs_same) | (with_reducible apply bs_far; case hp => (dsimp only; omega)) | (with_reducible apply bs_drew) | (with_reducible apply bs_drewN) | (with_reducible apply bs_new; (first | (with_reducible rfl) | (simp; done))) | (with_reducible apply bs_alloc) | (with_reducible apply bs_below; (case hb => with_reducible assumption); (case hB => first | omega | (simp; omega) | (simp; done)))))
    case hb => (repeat (first | (with_reducible assumption) | with_reducible exact be_refl _ | (with_reducible refine be_set ?_ (by dsimp only; omega)) | (with_reducible apply be_drew) | (with_reducible apply be_drewN) | (with_reducible refine be_alloc ?_ (by first | omega | (simp; omega) | simp)) | (with_reducible refine be_call (by with_reducible assumption) (by first | omega | (simp; omega) | simp) ?_)))
    intro w14_ k14_0 HB14
    try simp only [List.setIfInBounds_toArray, List.set_cons_zero, List.set_cons_succ] at k14_0
    clear g0 g1 g2 fz
    obtain ⟨c14_0_0, c14_0_1, c14_0_2, f14_0⟩ := cells3 k14_0
    have s14_0 := bs_lt k14_0
    have p := hide (fun w => part_calls 11 9221120237041090561 5 w part13)
    refine wp_region_fresh_lit (by kernel_rfl) (by kernel_rfl) ?_
    repeat (quiet_step (fail))
    quiet_step ((go_at_call 10; apply fresh_eq; with_reducible exact p.out _))
    repeat (quiet_step (fail))
    quiet_step ((go_at_call 11; apply fresh_eq; with_reducible exact awake_calls _))
    repeat (quiet_step (fail))
    refine wpQuiet_nil ?_
    rintro _ ⟨⟨W6, hb6⟩, rfl⟩
    (try dsimp only)
    have y6 := hb6.size
    go_wp2
    go_ret
    exact ⟨rfl, by (repeat (first | (with_reducible assumption) | with_reducible exact be_refl _ | (with_reducible refine be_set ?_ (by dsimp only; omega)) | (with_reducible apply be_drew) | (with_reducible apply be_drewN) | (with_reducible refine be_alloc ?_ (by first | omega | (simp; omega) | simp)) | (with_reducible refine be_call (by with_reducible assumption) (by first | omega | (simp; omega) | simp) ?_)))⟩
  · have hk1 : (Go.bits .and .i64 n 255).tmod 23 = 14 := hk
    clear hk
    have g0 := (bs_cell k1_0 42).trans rfl
    have g1 := (bs_cell k1_0 43).trans rfl
    have g2 := (bs_cell k1_0 44).trans rfl
    clear k1_0
    go_upto_region 4 with fail
    apply wp_letter1 (w.heap.size) w (w1_.heap.size) 24
    case h0 => (repeat (first | (with_reducible assumption) | (with_reducible apply bs_same) | (with_reducible apply bs_far; case hp => (dsimp only; omega)) | (with_reducible apply bs_drew) | (with_reducible apply bs_drewN) | (with_reducible apply bs_new; (first | (with_reducible rfl) | (simp; done))) | (with_reducible apply bs_alloc) | (with_reducible apply bs_below; (case hb => with_reducible assumption); (case hB => first | omega | (simp; omega) | (simp; done)))))
    case hb => (repeat (first | (with_reducible assumption) | with_reducible exact be_refl _ | (with_reducible refine be_set ?_ (by dsimp only; omega)) | (with_reducible apply be_drew) | (with_reducible apply be_drewN) | (with_reducible refine be_alloc ?_ (by first | omega | (simp; omega) | simp)) | (with_reducible refine be_call (by with_reducible assumption) (by first | omega | (simp; omega) | simp) ?_)))
    intro w15_ k15_0 HB15
    try simp only [List.setIfInBounds_toArray, List.set_cons_zero, List.set_cons_succ] at k15_0
    clear g0 g1 g2 fz
    obtain ⟨c15_0_0, c15_0_1, c15_0_2, f15_0⟩ := cells3 k15_0
    have s15_0 := bs_lt k15_0
    have p := hide (fun w => part_calls 0 9221120237041090561 0 w part14)
    refine wp_region_fresh_lit (by kernel_rfl) (by kernel_rfl) ?_
    repeat (quiet_step (fail))
    quiet_step ((go_at_call 10; apply fresh_eq; with_reducible exact p.out _))
    repeat (quiet_step (fail))
    quiet_step ((go_at_call 11; apply fresh_eq; with_reducible exact awake_calls _))
    repeat (quiet_step (fail))
    refine wpQuiet_nil ?_
    rintro _ ⟨⟨W6, hb6⟩, rfl⟩
    (try dsimp only)
    have y6 := hb6.size
    go_wp2
    go_ret
    exact ⟨rfl, by (repeat (first | (with_reducible assumption) | with_reducible exact be_refl _ | (with_reducible refine be_set ?_ (by dsimp only; omega)) | (with_reducible apply be_drew) | (with_reducible apply be_drewN) | (with_reducible refine be_alloc ?_ (by first | omega | (simp; omega) | simp)) | (with_reducible refine be_call (by with_reducible assumption) (by first | omega | (simp; omega) | simp) ?_)))⟩
  · have hk1 : (Go.bits .and .i64 n 255).tmod 23 = 15 := hk
    clear hk
    have g0 := (bs_cell k1_0 45).trans rfl
    have g1 := (bs_cell k1_0 46).trans rfl
    have g2 := (bs_cell k1_0 47).trans rfl
    clear k1_0
    go_upto_region 4 with fail
    apply wp_letter1 (w.heap.size) w (w1_.heap.size) 24
    case h0 => (repeat (first | (with_reducible assumption) | (with_reducible apply bs_same) | (with_reducible apply bs_far; case hp => (dsimp only; omega)) | (with_reducible apply bs_drew) | (with_reducible apply bs_drewN) | (with_reducible apply bs_new; (first | (with_reducible rfl) | (simp; done))) | (with_reducible apply bs_alloc) | (with_reducible apply bs_below; (case hb => with_reducible assumption); (case hB => first | omega | (simp; omega) | (simp; done)))))
    case hb => (repeat (first | (with_reducible assumption) | with_reducible exact be_refl _ | (with_reducible refine be_set ?_ (by dsimp only; omega)) | (with_reducible apply be_drew) | (with_reducible apply be_drewN) | (with_reducible refine be_alloc ?_ (by first | omega | (simp; omega) | simp)) | (with_reducible refine be_call (by with_reducible assumption) (by first | omega | (simp; omega) | simp) ?_)))
    intro w16_ k16_0 HB16
    try simp only [List.setIfInBounds_toArray, List.set_cons_zero, List.set_cons_succ] at k16_0
    clear g0 g1 g2 fz
    obtain ⟨c16_0_0, c16_0_1, c16_0_2, f16_0⟩ := cells3 k16_0
    have s16_0 := bs_lt k16_0
    have p := hide (fun w => part_calls 0 4607182418800017408 0 w part15)
    refine wp_region_fresh_lit (by kernel_rfl) (by kernel_rfl) ?_
    repeat (quiet_step (fail))
    quiet_step ((go_at_call 10; apply fresh_eq; with_reducible exact p.out _))
    repeat (quiet_step (fail))
    quiet_step ((go_at_call 11; apply fresh_eq; with_reducible exact awake_calls _))
    repeat (quiet_step (fail))
    refine wpQuiet_nil ?_
    rintro _ ⟨⟨W6, hb6⟩, rfl⟩
    (try dsimp only)
    have y6 := hb6.size
    go_wp2
    go_ret
    exact ⟨rfl, by (repeat (first | (with_reducible assumption) | with_reducible exact be_refl _ | (with_reducible refine be_set ?_ (by dsimp only; omega)) | (with_reducible apply be_drew) | (with_reducible apply be_drewN) | (with_reducible refine be_alloc ?_ (by first | omega | (simp; omega) | simp)) | (with_reducible refine be_call (by with_reducible assumption) (by first | omega | (simp; omega) | simp) ?_)))⟩
  · have hk1 : (Go.bits .and .i64 n 255).tmod 23 = 16 := hk
    clear hk
    have g0 := (bs_cell k1_0 48).trans rfl
    have g1 := (bs_cell k1_0 49).trans rfl
    have g2 := (bs_cell k1_0 50).trans rfl
    clear k1_0
    go_upto_region 4 with fail
    apply wp_letter1 (w.heap.size) w (w1_.heap.size) 24
    case h0 => (repeat (first | (with_reducible assumption) | (with_reducible apply bs_same) | (with_reducible apply bs_far; case hp => (dsimp only; omega)) | (with_reducible apply bs_drew) | (with_reducible apply bs_drewN) | (with_reducible apply bs_new; (first | (with_reducible rfl) | (simp; done))) | (with_reducible apply bs_alloc) | (with_reducible apply bs_below; (case hb => with_reducible assumption); (case hB => first | omega | (simp; omega) | (simp; done)))))
    case hb => (repeat (first | (with_reducible assumption) | with_reducible exact be_refl _ | (with_reducible refine be_set ?_ (by dsimp only; omega)) | (with_reducible apply be_drew) | (with_reducible apply be_drewN) | (with_reducible refine be_alloc ?_ (by first | omega | (simp; omega) | simp)) | (with_reducible refine be_call (by with_reducible assumption) (by first | omega | (simp; omega) | simp) ?_)))
    intro w17_ k17_0 HB17
    try simp only [List.setIfInBounds_toArray, List.set_cons_zero, List.set_cons_succ] at k17_0
    clear g0 g1 g2 fz
    obtain ⟨c17_0_0, c17_0_1, c17_0_2, f17_0⟩ := cells3 k17_0
    have s17_0 := bs_lt k17_0
    have p := hide (fun w => part_calls (-5) 4607182418800017408 0 w part16)
    refine wp_region_fresh_lit (by kernel_rfl) (by kernel_rfl) ?_
    repeat (quiet_step (fail))
    quiet_step ((go_at_call 10; apply fresh_eq; with_reducible exact p.out _))
    repeat (quiet_step (fail))
    quiet_step ((go_at_call 11; apply fresh_eq; with_reducible exact awake_calls _))
    repeat (quiet_step (fail))
    refine wpQuiet_nil ?_
    rintro _ ⟨⟨W6, hb6⟩, rfl⟩
    (try dsimp only)
    have y6 := hb6.size
    go_wp2
    go_ret
    exact ⟨rfl, by (repeat (first | (with_reducible assumption) | with_reducible exact be_refl _ | (with_reducible refine be_set ?_ (by dsimp only; omega)) | (with_reducible apply be_drew) | (with_reducible apply be_drewN) | (with_reducible refine be_alloc ?_ (by first | omega | (simp; omega) | simp)) | (with_reducible refine be_call (by with_reducible assumption) (by first | omega | (simp; omega) | simp) ?_)))⟩
  · have hk1 : (Go.bits .and .i64 n 255).tmod 23 = 17 := hk
    clear hk
    have g0 := (bs_cell k1_0 51).trans rfl
    have g1 := (bs_cell k1_0 52).trans rfl
    have g2 := (bs_cell k1_0 53).trans rfl
    clear k1_0
    go_upto_region 4 with fail
    apply wp_letter1 (w.heap.size) w (w1_.heap.size) 24
    case h0 => (repeat (first | (with_reducible assumption) | (with_reducible apply bs_same) | (with_reducible apply bs_far; case hp => (dsimp only; omega)) | (with_reducible apply bs_drew) | (with_reducible apply bs_drewN) | (with_reducible apply bs_new; (first | (with_reducible rfl) | (simp; done))) | (with_reducible apply bs_alloc) | (with_reducible apply bs_below; (case hb => with_reducible assumption); (case hB => first | omega | (simp; omega) | (simp; done)))))
    case hb => (repeat (first | (with_reducible assumption) | with_reducible exact be_refl _ | (with_reducible refine be_set ?_ (by dsimp only; omega)) | (with_reducible apply be_drew) | (with_reducible apply be_drewN) | (with_reducible refine be_alloc ?_ (by first | omega | (simp; omega) | simp)) | (with_reducible refine be_call (by with_reducible assumption) (by first | omega | (simp; omega) | simp) ?_)))
    intro w18_ k18_0 HB18
    try simp only [List.setIfInBounds_toArray, List.set_cons_zero, List.set_cons_succ] at k18_0
    clear g0 g1 g2 fz
    obtain ⟨c18_0_0, c18_0_1, c18_0_2, f18_0⟩ := cells3 k18_0
    have s18_0 := bs_lt k18_0
    have p := hide (fun w => part_calls 20000 4602678819172646912 5000 w part17)
    refine wp_region_fresh_lit (by kernel_rfl) (by kernel_rfl) ?_
    repeat (quiet_step (fail))
    quiet_step ((go_at_call 10; apply fresh_eq; with_reducible exact p.out _))
    repeat (quiet_step (fail))
    quiet_step ((go_at_call 11; apply fresh_eq; with_reducible exact awake_calls _))
    repeat (quiet_step (fail))
    refine wpQuiet_nil ?_
    rintro _ ⟨⟨W6, hb6⟩, rfl⟩
    (try dsimp only)
    have y6 := hb6.size
    go_wp2
    go_ret
    exact ⟨rfl, by (repeat (first | (with_reducible assumption) | with_reducible exact be_refl _ | (with_reducible refine be_set ?_ (by dsimp only; omega)) | (with_reducible apply be_drew) | (with_reducible apply be_drewN) | (with_reducible refine be_alloc ?_ (by first | omega | (simp; omega) | simp)) | (with_reducible refine be_call (by with_reducible assumption) (by first | omega | (simp; omega) | simp) ?_)))⟩
  · have hk1 : (Go.bits .and .i64 n 255).tmod 23 = 18 := hk
    clear hk
    have g0 := (bs_cell k1_0 54).trans rfl
    have g1 := (bs_cell k1_0 55).trans rfl
    have g2 := (bs_cell k1_0 56).trans rfl
    clear k1_0
    go_upto_region 4 with fail
    apply wp_letter1 (w.heap.size) w (w1_.heap.size) 24
    case h0 => (repeat (first | (with_reducible assumption) | (with_reducible apply bs_same) | (with_reducible apply bs_far; case hp => (dsimp only; omega)) | (with_reducible apply bs_drew) | (with_reducible apply bs_drewN) | (with_reducible apply bs_new; (first | (with_reducible rfl) | (simp; done))) | (with_reducible apply bs_alloc) | (with_reducible apply bs_below; (case hb => with_reducible assumption); (case hB => first | omega | (simp; omega) | (simp; done)))))
    case hb => (repeat (first | (with_reducible assumption) | with_reducible exact be_refl _ | (with_reducible refine be_set ?_ (by dsimp only; omega)) | (with_reducible apply be_drew) | (with_reducible apply be_drewN) | (with_reducible refine be_alloc ?_ (by first | omega | (simp; omega) | simp)) | (with_reducible refine be_call (by with_reducible assumption) (by first | omega | (simp; omega) | simp) ?_)))
    intro w19_ k19_0 HB19
    try simp only [List.setIfInBounds_toArray, List.set_cons_zero, List.set_cons_succ] at k19_0
    clear g0 g1 g2 fz
    obtain ⟨c19_0_0, c19_0_1, c19_0_2, f19_0⟩ := cells3 k19_0
    have s19_0 := bs_lt k19_0
    have p := hide (fun w => part_calls 20000 9221120237041090561 5000 w part18)
    refine wp_region_fresh_lit (by kernel_rfl) (by kernel_rfl) ?_
    repeat (quiet_step (fail))
    quiet_step ((go_at_call 10; apply fresh_eq; with_reducible exact p.out _))
    repeat (quiet_step (fail))
    quiet_step ((go_at_call 11; apply fresh_eq; with_reducible exact awake_calls _))
    repeat (quiet_step (fail))
    refine wpQuiet_nil ?_
    rintro _ ⟨⟨W6, hb6⟩, rfl⟩
    (try dsimp only)
    have y6 := hb6.size
    go_wp2
    go_ret
    exact ⟨rfl, by (repeat (first | (with_reducible assumption) | with_reducible exact be_refl _ | (with_reducible refine be_set ?_ (by dsimp only; omega)) | (with_reducible apply be_drew) | (with_reducible apply be_drewN) | (with_reducible refine be_alloc ?_ (by first | omega | (simp; omega) | simp)) | (with_reducible refine be_call (by with_reducible assumption) (by first | omega | (simp; omega) | simp) ?_)))⟩
  · have hk1 : (Go.bits .and .i64 n 255).tmod 23 = 19 := hk
    clear hk
    have g0 := (bs_cell k1_0 57).trans rfl
    have g1 := (bs_cell k1_0 58).trans rfl
    have g2 := (bs_cell k1_0 59).trans rfl
    clear k1_0
    go_upto_region 4 with fail
    apply wp_letter1 (w.heap.size) w (w1_.heap.size) 24
    case h0 => (repeat (first | (with_reducible assumption) | (with_reducible apply bs_same) | (with_reducible apply bs_far; case hp => (dsimp only; omega)) | (with_reducible apply bs_drew) | (with_reducible apply bs_drewN) | (with_reducible apply bs_new; (first | (with_reducible rfl) | (simp; done))) | (with_reducible apply bs_alloc) | (with_reducible apply bs_below; (case hb => with_reducible assumption); (case hB => first | omega | (simp; omega) | (simp; done)))))
    case hb => (repeat (first | (with_reducible assumption) | with_reducible exact be_refl _ | (with_reducible refine be_set ?_ (by dsimp only; omega)) | (with_reducible apply be_drew) | (with_reducible apply be_drewN) | (with_reducible refine be_alloc ?_ (by first | omega | (simp; omega) | simp)) | (with_reducible refine be_call (by with_reducible assumption) (by first | omega | (simp; omega) | simp) ?_)))
    intro w20_ k20_0 HB20
    try simp only [List.setIfInBounds_toArray, List.set_cons_zero, List.set_cons_succ] at k20_0
    clear g0 g1 g2 fz
    obtain ⟨c20_0_0, c20_0_1, c20_0_2, f20_0⟩ := cells3 k20_0
    have s20_0 := bs_lt k20_0
    have p := hide (fun w => part_calls 3 4599676419421066581 1 w part19)
    refine wp_region_fresh_lit (by kernel_rfl) (by kernel_rfl) ?_
    repeat (quiet_step (fail))
    quiet_step ((go_at_call 10; apply fresh_eq; with_reducible exact p.out _))
    repeat (quiet_step (fail))
    quiet_step ((go_at_call 11; apply fresh_eq; with_reducible exact awake_calls _))
    repeat (quiet_step (fail))
    refine wpQuiet_nil ?_
    rintro _ ⟨⟨W6, hb6⟩, rfl⟩
    (try dsimp only)
    have y6 := hb6.size
    go_wp2
    go_ret
    exact ⟨rfl, by (repeat (first | (with_reducible assumption) | with_reducible exact be_refl _ | (with_reducible refine be_set ?_ (by dsimp only; omega)) | (with_reducible apply be_drew) | (with_reducible apply be_drewN) | (with_reducible refine be_alloc ?_ (by first | omega | (simp; omega) | simp)) | (with_reducible refine be_call (by with_reducible assumption) (by first | omega | (simp; omega) | simp) ?_)))⟩
  · have hk1 : (Go.bits .and .i64 n 255).tmod 23 = 20 := hk
    clear hk
    have g0 := (bs_cell k1_0 60).trans rfl
    have g1 := (bs_cell k1_0 61).trans rfl
    have g2 := (bs_cell k1_0 62).trans rfl
    clear k1_0
    go_upto_region 4 with fail
    apply wp_letter1 (w.heap.size) w (w1_.heap.size) 24
    case h0 => (repeat (first | (with_reducible assumption) | (with_reducible apply bs_same) | (with_reducible apply bs_far; case hp => (dsimp only; omega)) | (with_reducible apply bs_drew) | (with_reducible apply bs_drewN) | (with_reducible apply bs_new; (first | (with_reducible rfl) | (simp; done))) | (with_reducible apply bs_alloc) | (with_reducible apply bs_below; (case hb => with_reducible assumption); (case hB => first | omega | (simp; omega) | (simp; done)))))
    case hb => (repeat (first | (with_reducible assumption) | with_reducible exact be_refl _ | (with_reducible refine be_set ?_ (by dsimp only; omega)) | (with_reducible apply be_drew) | (with_reducible apply be_drewN) | (with_reducible refine be_alloc ?_ (by first | omega | (simp; omega) | simp)) | (with_reducible refine be_call (by with_reducible assumption) (by first | omega | (simp; omega) | simp) ?_)))
    intro w21_ k21_0 HB21
    try simp only [List.setIfInBounds_toArray, List.set_cons_zero, List.set_cons_succ] at k21_0
    clear g0 g1 g2 fz
    obtain ⟨c21_0_0, c21_0_1, c21_0_2, f21_0⟩ := cells3 k21_0
    have s21_0 := bs_lt k21_0
    have p := hide (fun w => part_calls 10 1 0 w part20)
    refine wp_region_fresh_lit (by kernel_rfl) (by kernel_rfl) ?_
    repeat (quiet_step (fail))
    quiet_step ((go_at_call 10; apply fresh_eq; with_reducible exact p.out _))
    repeat (quiet_step (fail))
    quiet_step ((go_at_call 11; apply fresh_eq; with_reducible exact awake_calls _))
    repeat (quiet_step (fail))
    refine wpQuiet_nil ?_
    rintro _ ⟨⟨W6, hb6⟩, rfl⟩
    (try dsimp only)
    have y6 := hb6.size
    go_wp2
    go_ret
    exact ⟨rfl, by (repeat (first | (with_reducible assumption) | with_reducible exact be_refl _ | (with_reducible refine be_set ?_ (by dsimp only; omega)) | (with_reducible apply be_drew) | (with_reducible apply be_drewN) | (with_reducible refine be_alloc ?_ (by first | omega | (simp; omega) | simp)) | (with_reducible refine be_call (by with_reducible assumption) (by first | omega | (simp; omega) | simp) ?_)))⟩
  · have hk1 : (Go.bits .and .i64 n 255).tmod 23 = 21 := hk
    clear hk
    have g0 := (bs_cell k1_0 63).trans rfl
    have g1 := (bs_cell k1_0 64).trans rfl
    have g2 := (bs_cell k1_0 65).trans rfl
    clear k1_0
    go_upto_region 4 with fail
    apply wp_letter1 (w.heap.size) w (w1_.heap.size) 24
    case h0 => (repeat (first | (with_reducible assumption) | (with_reducible apply bs_same) | (with_reducible apply bs_far; case hp => (dsimp only; omega)) | (with_reducible apply bs_drew) | (with_reducible apply bs_drewN) | (with_reducible apply bs_new; (first | (with_reducible rfl) | (simp; done))) | (with_reducible apply bs_alloc) | (with_reducible apply bs_below; (case hb => with_reducible assumption); (case hB => first | omega | (simp; omega) | (simp; done)))))
    case hb => (repeat (first | (with_reducible assumption) | with_reducible exact be_refl _ | (with_reducible refine be_set ?_ (by dsimp only; omega)) | (with_reducible apply be_drew) | (with_reducible apply be_drewN) | (with_reducible refine be_alloc ?_ (by first | omega | (simp; omega) | simp)) | (with_reducible refine be_call (by with_reducible assumption) (by first | omega | (simp; omega) | simp) ?_)))
    intro w22_ k22_0 HB22
    try simp only [List.setIfInBounds_toArray, List.set_cons_zero, List.set_cons_succ] at k22_0
    clear g0 g1 g2 fz
    obtain ⟨c22_0_0, c22_0_1, c22_0_2, f22_0⟩ := cells3 k22_0
    have s22_0 := bs_lt k22_0
    have p := hide (fun w => part_calls 10 9218868437227405311 10 w part21)
    refine wp_region_fresh_lit (by kernel_rfl) (by kernel_rfl) ?_
    repeat (quiet_step (fail))
    quiet_step ((go_at_call 10; apply fresh_eq; with_reducible exact p.out _))
    repeat (quiet_step (fail))
    quiet_step ((go_at_call 11; apply fresh_eq; with_reducible exact awake_calls _))
    repeat (quiet_step (fail))
    refine wpQuiet_nil ?_
    rintro _ ⟨⟨W6, hb6⟩, rfl⟩
    (try dsimp only)
    have y6 := hb6.size
    go_wp2
    go_ret
    exact ⟨rfl, by (repeat (first | (with_reducible assumption) | with_reducible exact be_refl _ | (with_reducible refine be_set ?_ (by dsimp only; omega)) | (with_reducible apply be_drew) | (with_reducible apply be_drewN) | (with_reducible refine be_alloc ?_ (by first | omega | (simp; omega) | simp)) | (with_reducible refine be_call (by with_reducible assumption) (by first | omega | (simp; omega) | simp) ?_)))⟩
  · have hk1 : (Go.bits .and .i64 n 255).tmod 23 = 22 := hk
    clear hk
    have g0 := (bs_cell k1_0 66).trans rfl
    have g1 := (bs_cell k1_0 67).trans rfl
    have g2 := (bs_cell k1_0 68).trans rfl
    clear k1_0
    go_upto_region 4 with fail
    apply wp_letter1 (w.heap.size) w (w1_.heap.size) 24
    case h0 => (repeat (first | (with_reducible assumption) | (with_reducible apply bs_same) | (with_reducible apply bs_far; case hp => (dsimp only; omega)) | (with_reducible apply bs_drew) | (with_reducible apply bs_drewN) | (with_reducible apply bs_new; (first | (with_reducible rfl) | (simp; done))) | (with_reducible apply bs_alloc) | (with_reducible apply bs_below; (case hb => with_reducible assumption); (case hB => first | omega | (simp; omega) | (simp; done)))))
    case hb => (repeat (first | (with_reducible assumption) | with_reducible exact be_refl _ | (with_reducible refine be_set ?_ (by dsimp only; omega)) | (with_reducible apply be_drew) | (with_reducible apply be_drewN) | (with_reducible refine be_alloc ?_ (by first | omega | (simp; omega) | simp)) | (with_reducible refine be_call (by with_reducible assumption) (by first | omega | (simp; omega) | simp) ?_)))
    intro w23_ k23_0 HB23
    try simp only [List.setIfInBounds_toArray, List.set_cons_zero, List.set_cons_succ] at k23_0
    clear g0 g1 g2 fz
    obtain ⟨c23_0_0, c23_0_1, c23_0_2, f23_0⟩ := cells3 k23_0
    have s23_0 := bs_lt k23_0
    have p := hide (fun w => part_calls 10000 4547007122018943789 1 w part22)
    refine wp_region_fresh_lit (by kernel_rfl) (by kernel_rfl) ?_
    repeat (quiet_step (fail))
    quiet_step ((go_at_call 10; apply fresh_eq; with_reducible exact p.out _))
    repeat (quiet_step (fail))
    quiet_step ((go_at_call 11; apply fresh_eq; with_reducible exact awake_calls _))
    repeat (quiet_step (fail))
    refine wpQuiet_nil ?_
    rintro _ ⟨⟨W6, hb6⟩, rfl⟩
    (try dsimp only)
    have y6 := hb6.size
    go_wp2
    go_ret
    exact ⟨rfl, by (repeat (first | (with_reducible assumption) | with_reducible exact be_refl _ | (with_reducible refine be_set ?_ (by dsimp only; omega)) | (with_reducible apply be_drew) | (with_reducible apply be_drewN) | (with_reducible refine be_alloc ?_ (by first | omega | (simp; omega) | simp)) | (with_reducible refine be_call (by with_reducible assumption) (by first | omega | (simp; omega) | simp) ?_)))⟩
theorem walkR (n : Int) (w : World) (_ : (Lit.int .i64 n).wf = true) :
    Calls Try.prog 3 #[.int .i64 n] w fun e w' => e = .returned (.bool true) ∧ Below w.heap.size w w' := walk n w
end Go.Proofs.Ytdkpohnjcbmnoaa.RatiFormsW

