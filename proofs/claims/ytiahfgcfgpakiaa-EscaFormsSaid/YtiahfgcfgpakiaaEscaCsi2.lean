/- What the functions of the package esca hand back, way by way, further: contracts, each for every escape that is begun and every byte of its kind. -/
import Derived.Test.YtiahfgcfgpakiaaEscaCsi1
namespace Go.Proofs.Ytiahfgcfgpakiaa.EscaVal
open Go Go.RowKit Go.Proofs.YtiahfgcfgpakiaaKit Go.Proofs.Ytiahfgcfgpakiaa.Mem Go.Proofs.YtiahfgcfgpakiaaW.PrintWords Go.Proofs.YtiahfgcfgpakiaaW.PrintLast
set_option linter.unusedVariables false
set_option linter.unusedSimpArgs false
section
variable (m n1 n2 n3 : Int) (A : Option Addr) (n c : Nat) (num : Int) (q r : Bool) (w : World) (P : Nat → Prop) (ps : List Int)
set_option maxHeartbeats 2000000 in
theorem csi_semi (hs : PS w A n ps) : Calls Try.prog 21 #[.agg #[.int .i64 m, .int .i64 n1, .int .i64 n2, .int .i64 n3, .slice A n c, .int .i64 num, .bool q, .bool r], .int .u8 59] w (Out w P m n1 n2 n3 (toldP ps num) (-1) q r []) := by
  have W1 := hide (within_val 59 48 57 false (by decide))
  have LV := fun W => hide (leave_no m n1 n2 n3 A n c num q r 59 (by omega) (by omega) (by omega) W)
  obtain ⟨hn, hl, hC⟩ := hs
  have CV := fun W hb => hide (clone_val W A n c ps hn (C_at hC hb) (by omega))
  have HN := hide hn
  have HL := hide hl
  clear hn hl hC
  go_enter Try.func21, Try.ntmps21
  go_upto_region 2 with (go_at_call 26; with_reducible refine (LV _).out.mono ?_; rintro e w9 ⟨rfl, hb9⟩; have hz9 := hb9.size; simp at hz9; obtain ⟨hc9, hf9⟩ := be_cells hb9; have z9 : w.heap.size < w9.heap.size := (by omega); have y9 : w.heap.size + 1 < w9.heap.size := (by omega))
  apply wp_letter2 (w.heap.size) w (w.heap.size) 33 (w.heap.size + 1) 33
  case h0 => (repeat (first | (with_reducible assumption) | (with_reducible apply bs_same) | (with_reducible apply bs_far; case hp => (dsimp only; omega)) | (with_reducible apply bs_drew) | (with_reducible apply bs_drewN) | (with_reducible apply bs_new; (first | (with_reducible rfl) | (simp; done))) | (with_reducible apply bs_alloc) | (with_reducible apply bs_below; (case hb => with_reducible assumption); (case hB => first | omega | (simp; omega) | (simp; done)))))
  case h1 => (repeat (first | (with_reducible assumption) | (with_reducible apply bs_same) | (with_reducible apply bs_far; case hp => (dsimp only; omega)) | (with_reducible apply bs_drew) | (with_reducible apply bs_drewN) | (with_reducible apply bs_new; (first | (with_reducible rfl) | (simp; done))) | (with_reducible apply bs_alloc) | (with_reducible apply bs_below; (case hb => with_reducible assumption); (case hB => first | omega | (simp; omega) | (simp; done)))))
  case hb => (repeat (first | (with_reducible assumption) | with_reducible exact be_refl _ | (with_reducible refine be_set ?_ (by dsimp only; omega)) | (with_reducible apply be_drew) | (with_reducible apply be_drewN) | (with_reducible refine be_alloc ?_ (by first | omega | (simp; omega) | simp)) | (with_reducible refine be_call (by with_reducible assumption) (by first | omega | (simp; omega) | simp) ?_)))
  intro w1_ k1_0 k1_1 HB1
  try simp only [List.setIfInBounds_toArray, List.set_cons_zero, List.set_cons_succ] at k1_0 k1_1
  obtain ⟨c1_0_0, c1_0_1, c1_0_2, c1_0_3, c1_0_4, c1_0_5, c1_0_6, c1_0_7, f1_0⟩ := cells8 k1_0
  have s1_0 := bs_lt k1_0
  obtain ⟨c1_1_0, c1_1_1, c1_1_2, c1_1_3, c1_1_4, c1_1_5, c1_1_6, c1_1_7, f1_1⟩ := cells8 k1_1
  have s1_1 := bs_lt k1_1
  go_upto_region 5 with (go_at_call 17; with_reducible refine (CV _ HB1).out.mono ?_; rintro e w7 ⟨v0, rfl, hR, hb7⟩; obtain ⟨A0, c0, hv0⟩ := Kd.R_slice hR; rw [HN.out] at hv0; subst hv0; obtain ⟨hc7, hf7⟩ := be_cells hb7; have hz7 := hb7.size)
  refine wp_letter (Pre w m n1 n2 n3 (.slice A0 n c0) num q r ps) ⟨?_, ?_, ?_, ?_⟩ ?_
  · (apply bs_eq; (case h => (repeat (first | (with_reducible assumption) | (with_reducible apply bs_same) | (with_reducible apply bs_far; case hp => (dsimp only; omega)) | (with_reducible apply bs_drew) | (with_reducible apply bs_drewN) | (with_reducible apply bs_new; (first | (with_reducible rfl) | (simp; done))) | (with_reducible apply bs_alloc) | (with_reducible apply bs_below; (case hb => with_reducible assumption); (case hB => first | omega | (simp; omega) | (simp; done)))))); (case e => rfl))
  · (repeat (first | (with_reducible assumption) | (with_reducible apply bs_same) | (with_reducible apply bs_far; case hp => (dsimp only; omega)) | (with_reducible apply bs_drew) | (with_reducible apply bs_drewN) | (with_reducible apply bs_new; (first | (with_reducible rfl) | (simp; done))) | (with_reducible apply bs_alloc) | (with_reducible apply bs_below; (case hb => with_reducible assumption); (case hB => first | omega | (simp; omega) | (simp; done)))))
  · exact R_put (Kd.R_mono (Kd.R_lower (R_base hR) (show w.heap.size + 2 ≤ w1_.heap.size by omega)) (fun k hk => by omega)) (by dsimp only; omega) _
  · (repeat (first | (with_reducible assumption) | with_reducible exact be_refl _ | (with_reducible refine be_set ?_ (by dsimp only; omega)) | (with_reducible apply be_drew) | (with_reducible apply be_drewN) | (with_reducible refine be_alloc ?_ (by first | omega | (simp; omega) | simp)) | (with_reducible refine be_call (by with_reducible assumption) (by first | omega | (simp; omega) | simp) ?_)))
  clear hR hb7 hc7 hf7 hz7 LV CV HB1 k1_0 k1_1 c1_0_0 c1_0_1 c1_0_2 c1_0_3 c1_0_4 c1_0_5 c1_0_6 c1_0_7 c1_1_0 c1_1_1 c1_1_2 c1_1_3 c1_1_4 c1_1_5 c1_1_6 c1_1_7 f1_0 f1_1 s1_0 s1_1
  intro w2 hP
  obtain ⟨k0, k1, kR, kB⟩ := hP
  have KR := hide kR
  have s0 := bs_lt k0
  have s1 := bs_lt k1
  obtain ⟨x0, x1, x2, x3, x4, x5, x6, x7, f0⟩ := cells8 k0
  obtain ⟨y0, y1, y2, y3, y4, y5, y6, y7, f1⟩ := cells8 k1
  clear kR
  have CT := hide (show Kd.C (Kd.int .i64) w2 A0 n ps by have h := (Kd.R_reads' KR.out).2.2; rw [HN.out] at h; exact h)
  go_wp2_with (first | (go_at_call 28; with_reducible refine (W1.out _).mono ?_; rintro e v ⟨rfl, hv⟩; subst v) | (go_at_call 30; with_reducible refine (told_val _ m n1 n2 n3 A0 n c0 num q r ps HN.out CT.out (by have := HL.out; omega)).mono ?_; rintro e w6 ⟨v1, rfl, hR6, hb6⟩; obtain ⟨A1, c1, hv1⟩ := Kd.R_slice hR6; subst hv1; have R6 := hide (R_base hR6); obtain ⟨hc6, hf6⟩ := be_cells hb6; have hz6 := hb6.size; clear hR6) | go_in)
  refine bodyPost_ret (results_ct rfl _ _ (w.heap.size + 1) 33 #[.int .i64 m, .int .i64 n1, .int .i64 n2, .int .i64 n3, .slice A1 (toldP ps num).length c1, .int .i64 (-1), .bool q, .bool r] (0, 0) _ rfl ?_ Try.underlying33 rfl (by kernel_rfl)) rfl ?_
  · (apply bs_eq; (case h => (repeat (first | (with_reducible assumption) | (with_reducible apply bs_same) | (with_reducible apply bs_far; case hp => (dsimp only; omega)) | (with_reducible apply bs_drew) | (with_reducible apply bs_drewN) | (with_reducible apply bs_new; (first | (with_reducible rfl) | (simp; done))) | (with_reducible apply bs_alloc) | (with_reducible apply bs_below; (case hb => with_reducible assumption); (case hB => first | omega | (simp; omega) | (simp; done)))))); (case e => rfl))
  · refine ⟨_, _, rfl, R_new_nil (base := w2.heap.size) ?_ (by omega), .nil _ _, by (repeat (first | (with_reducible assumption) | with_reducible exact be_refl _ | (with_reducible refine be_set ?_ (by dsimp only; omega)) | (with_reducible apply be_drew) | (with_reducible apply be_drewN) | (with_reducible refine be_alloc ?_ (by first | omega | (simp; omega) | simp)) | (with_reducible refine be_call (by with_reducible assumption) (by first | omega | (simp; omega) | simp) ?_)))⟩
    repeat (with_reducible refine R_put ?_ (by dsimp only; omega) _)
    exact R6.out
set_option maxHeartbeats 4000000 in
set_option maxRecDepth 100000 in
theorem csi_ctl (hs : PS w A n ps) (b : Int) (h1 : b ≠ 27) (h2 : b ≠ 24) (h3 : b ≠ 26) (h4 : b < 32) : Calls Try.prog 21 #[.agg #[.int .i64 m, .int .i64 n1, .int .i64 n2, .int .i64 n3, .slice A n c, .int .i64 num, .bool q, .bool r], .int .u8 b] w (Out w P m n1 n2 n3 ps num q r (ctl b)) := by
  have e59 : (b == 59) = false := by simp; omega
  have e63 : (b == 63) = false := by simp; omega
  have W1 := hide (within_val b 48 57 false (by simp; omega))
  have W2 := hide (within_val b 32 63 false (by simp; omega))
  have W3 := hide (within_val b 64 126 false (by simp; omega))
  have p1 : (b < 32) = True := eq_true h4
  have CTV := fun W => hide (control_val b W)
  have LV := fun W => hide (leave_no m n1 n2 n3 A n c num q r b (by omega) (by omega) (by omega) W)
  obtain ⟨hn, hl, hC⟩ := hs
  have CV := fun W hb => hide (clone_val W A n c ps hn (C_at hC hb) (by omega))
  have HN := hide hn
  have HL := hide hl
  clear hn hl hC
  go_enter Try.func21, Try.ntmps21
  go_upto_region 2 with (go_at_call 26; with_reducible refine (LV _).out.mono ?_; rintro e w9 ⟨rfl, hb9⟩; have hz9 := hb9.size; simp at hz9; obtain ⟨hc9, hf9⟩ := be_cells hb9; have z9 : w.heap.size < w9.heap.size := (by omega); have y9 : w.heap.size + 1 < w9.heap.size := (by omega))
  apply wp_letter2 (w.heap.size) w (w.heap.size) 33 (w.heap.size + 1) 33
  case h0 => (repeat (first | (with_reducible assumption) | (with_reducible apply bs_same) | (with_reducible apply bs_far; case hp => (dsimp only; omega)) | (with_reducible apply bs_drew) | (with_reducible apply bs_drewN) | (with_reducible apply bs_new; (first | (with_reducible rfl) | (simp; done))) | (with_reducible apply bs_alloc) | (with_reducible apply bs_below; (case hb => with_reducible assumption); (case hB => first | omega | (simp; omega) | (simp; done)))))
  case h1 => (repeat (first | (with_reducible assumption) | (with_reducible apply bs_same) | (with_reducible apply bs_far; case hp => (dsimp only; omega)) | (with_reducible apply bs_drew) | (with_reducible apply bs_drewN) | (with_reducible apply bs_new; (first | (with_reducible rfl) | (simp; done))) | (with_reducible apply bs_alloc) | (with_reducible apply bs_below; (case hb => with_reducible assumption); (case hB => first | omega | (simp; omega) | (simp; done)))))
  case hb => (repeat (first | (with_reducible assumption) | with_reducible exact be_refl _ | (with_reducible refine be_set ?_ (by dsimp only; omega)) | (with_reducible apply be_drew) | (with_reducible apply be_drewN) | (with_reducible refine be_alloc ?_ (by first | omega | (simp; omega) | simp)) | (with_reducible refine be_call (by with_reducible assumption) (by first | omega | (simp; omega) | simp) ?_)))
  intro w1_ k1_0 k1_1 HB1
  try simp only [List.setIfInBounds_toArray, List.set_cons_zero, List.set_cons_succ] at k1_0 k1_1
  obtain ⟨c1_0_0, c1_0_1, c1_0_2, c1_0_3, c1_0_4, c1_0_5, c1_0_6, c1_0_7, f1_0⟩ := cells8 k1_0
  have s1_0 := bs_lt k1_0
  obtain ⟨c1_1_0, c1_1_1, c1_1_2, c1_1_3, c1_1_4, c1_1_5, c1_1_6, c1_1_7, f1_1⟩ := cells8 k1_1
  have s1_1 := bs_lt k1_1
  go_upto_region 5 with (go_at_call 17; with_reducible refine (CV _ HB1).out.mono ?_; rintro e w7 ⟨v0, rfl, hR, hb7⟩; obtain ⟨A0, c0, hv0⟩ := Kd.R_slice hR; rw [HN.out] at hv0; subst hv0; obtain ⟨hc7, hf7⟩ := be_cells hb7; have hz7 := hb7.size)
  refine wp_letter (Pre w m n1 n2 n3 (.slice A0 n c0) num q r ps) ⟨?_, ?_, ?_, ?_⟩ ?_
  · (apply bs_eq; (case h => (repeat (first | (with_reducible assumption) | (with_reducible apply bs_same) | (with_reducible apply bs_far; case hp => (dsimp only; omega)) | (with_reducible apply bs_drew) | (with_reducible apply bs_drewN) | (with_reducible apply bs_new; (first | (with_reducible rfl) | (simp; done))) | (with_reducible apply bs_alloc) | (with_reducible apply bs_below; (case hb => with_reducible assumption); (case hB => first | omega | (simp; omega) | (simp; done)))))); (case e => rfl))
  · (repeat (first | (with_reducible assumption) | (with_reducible apply bs_same) | (with_reducible apply bs_far; case hp => (dsimp only; omega)) | (with_reducible apply bs_drew) | (with_reducible apply bs_drewN) | (with_reducible apply bs_new; (first | (with_reducible rfl) | (simp; done))) | (with_reducible apply bs_alloc) | (with_reducible apply bs_below; (case hb => with_reducible assumption); (case hB => first | omega | (simp; omega) | (simp; done)))))
  · exact R_put (Kd.R_mono (Kd.R_lower (R_base hR) (show w.heap.size + 2 ≤ w1_.heap.size by omega)) (fun k hk => by omega)) (by dsimp only; omega) _
  · (repeat (first | (with_reducible assumption) | with_reducible exact be_refl _ | (with_reducible refine be_set ?_ (by dsimp only; omega)) | (with_reducible apply be_drew) | (with_reducible apply be_drewN) | (with_reducible refine be_alloc ?_ (by first | omega | (simp; omega) | simp)) | (with_reducible refine be_call (by with_reducible assumption) (by first | omega | (simp; omega) | simp) ?_)))
  clear hR hb7 hc7 hf7 hz7 LV CV HB1 k1_0 k1_1 c1_0_0 c1_0_1 c1_0_2 c1_0_3 c1_0_4 c1_0_5 c1_0_6 c1_0_7 c1_1_0 c1_1_1 c1_1_2 c1_1_3 c1_1_4 c1_1_5 c1_1_6 c1_1_7 f1_0 f1_1 s1_0 s1_1
  intro w2 hP
  obtain ⟨k0, k1, kR, kB⟩ := hP
  have KR := hide kR
  have s0 := bs_lt k0
  have s1 := bs_lt k1
  obtain ⟨x0, x1, x2, x3, x4, x5, x6, x7, f0⟩ := cells8 k0
  obtain ⟨y0, y1, y2, y3, y4, y5, y6, y7, f1⟩ := cells8 k1
  clear kR
  clear h1 h2 h3 h4
  go_upto_region 16 with (first | (go_at_call 28; with_reducible refine (W1.out _).mono ?_; rintro e v ⟨rfl, hv⟩; subst v) | (go_at_call 28; with_reducible refine (W2.out _).mono ?_; rintro e v ⟨rfl, hv⟩; subst v) | (go_at_call 28; with_reducible refine (W3.out _).mono ?_; rintro e v ⟨rfl, hv⟩; subst v) | go_in)
  have nb : w.heap.size ≠ w.heap.size + 1 := by omega
  have nb2 : w.heap.size + 1 ≠ w.heap.size := by omega
  (first | (go_region_held3 (fun w' => w'.cell? ⟨w.heap.size, 0, none⟩ = some (.int .i64 m) ∧ w'.cell? ⟨w.heap.size, 1, none⟩ = some (.int .i64 n1) ∧ w'.cell? ⟨w.heap.size, 2, none⟩ = some (.int .i64 n2) ∧ w'.cell? ⟨w.heap.size, 3, none⟩ = some (.int .i64 n3) ∧ w'.cell? ⟨w.heap.size, 4, none⟩ = some (.slice A0 n c0) ∧ w'.cell? ⟨w.heap.size, 5, none⟩ = some (.int .i64 num) ∧ w'.cell? ⟨w.heap.size, 6, none⟩ = some (.bool q) ∧ w'.cell? ⟨w.heap.size, 7, none⟩ = some (.bool r)) ((first | go_keep | (simp [*]; done))) ((go_at_call 29; with_reducible refine (CTV _).out.mono ?_; rintro e w7 ⟨v8, rfl, ha, hb⟩; obtain ⟨hk, hfk⟩ := be_known hb; have HA := hide ha; have HB7 := hide hb; clear ha hb))) | fail "region")
  go_wp2
  have hb7 := HB7.out
  have hz7 := hb7.size
  have hn7 := HA.out.own
  have hdz : w2.drew.heap.size = w2.heap.size := rfl
  rw [hdz] at hz7 hn7
  refine bodyPost_ret (results_ct rfl _ _ (w.heap.size + 1) 33 #[.int .i64 m, .int .i64 n1, .int .i64 n2, .int .i64 n3, .slice A0 n c0, .int .i64 num, .bool q, .bool r] (0, 0) _ rfl ?_ Try.underlying33 rfl (by kernel_rfl)) rfl ?_
  · (apply bs_eq; (case h => (repeat (first | (with_reducible assumption) | (with_reducible apply bs_same) | (with_reducible apply bs_far; case hp => (dsimp only; omega)) | (with_reducible apply bs_drew) | (with_reducible apply bs_drewN) | (with_reducible apply bs_new; (first | (with_reducible rfl) | (simp; done))) | (with_reducible apply bs_alloc) | (with_reducible apply bs_below; (case hb => with_reducible assumption); (case hB => first | omega | (simp; omega) | (simp; done)))))); (case e => rfl))
  · have HR7 := hide (Kd.R_below (Kd.R_drew KR.out) hb7)
    have HV := hide (R_new (w := w) (P := P) KR.out (by omega) v8 (fun k hk => hn7 k hk))
    refine ⟨_, v8, rfl, ?_, ActR.lower (base := w2.heap.size) ?_ (by omega), by (repeat (first | (with_reducible assumption) | with_reducible exact be_refl _ | (with_reducible refine be_set ?_ (by dsimp only; omega)) | (with_reducible apply be_drew) | (with_reducible apply be_drewN) | (with_reducible refine be_alloc ?_ (by first | omega | (simp; omega) | simp)) | (with_reducible refine be_call (by with_reducible assumption) (by first | omega | (simp; omega) | simp) ?_)))⟩
    · have hV2 := Kd.V_mono (Kd.R_V (base' := w.heap.size) (Kd.R_bound KR.out)) (fun k hk => (show ((P k ∨ w.heap.size ≤ k) ∧ some k ≠ v8.ownBlock) ∧ (w.heap.size + 2 ≤ k ∧ k < w2.heap.size) from ⟨⟨.inr (by have := hk.2.1; omega), fun e => by have := hn7 k e.symm; have := hk.2.2.1; omega⟩, hk.2.1, hk.2.2.1⟩))
      obtain ⟨Ax, cx, e1, e2, e3⟩ := hV2
      refine ⟨Ax, cx, e1, e2, Kd.F_mono (Kd.F_step e3 (fun k hk hlt => ?_)) (fun k hk => hk.1)⟩
      have hk2 := hk.2
      repeat (first | (with_reducible refine (Below.heap_setCell _ _ _ k (by dsimp only; omega)).trans ?_))
      exact hb7.block k (by rw [hdz]; omega)
    · repeat (with_reducible refine ActR.set ?_ (by dsimp only; omega) _)
      exact HA.out
end
end Go.Proofs.Ytiahfgcfgpakiaa.EscaVal


