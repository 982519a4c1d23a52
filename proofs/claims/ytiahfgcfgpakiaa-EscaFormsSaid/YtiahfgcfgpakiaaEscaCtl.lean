/- What the functions of the package esca hand back, way by way, further: contracts, each for every escape that is begun and every byte of its kind. -/
import Derived.Test.YtiahfgcfgpakiaaEscaEsc
namespace Go.Proofs.Ytiahfgcfgpakiaa.EscaVal
open Go Go.RowKit Go.Proofs.YtiahfgcfgpakiaaKit Go.Proofs.Ytiahfgcfgpakiaa.Mem Go.Proofs.YtiahfgcfgpakiaaW.PrintWords Go.Proofs.YtiahfgcfgpakiaaW.PrintLast
set_option linter.unusedVariables false
set_option linter.unusedSimpArgs false
section
variable (m n1 n2 n3 : Int) (A : Option Addr) (n c : Nat) (num : Int) (q r : Bool) (w : World) (P : Nat → Prop)
set_option maxHeartbeats 4000000 in
set_option maxRecDepth 100000 in
theorem escape_ctl (b : Int) (h1 : b ≠ 27) (h2 : b ≠ 24) (h3 : b ≠ 26) (h4 : b < 32) (ps : List Int) (hs : Kd.V (Kd.int .i64) 3 w w.heap.size P (.slice A n c) ps) : Calls Try.prog 20 #[.agg #[.int .i64 m, .int .i64 n1, .int .i64 n2, .int .i64 n3, .slice A n c, .int .i64 num, .bool q, .bool r], .int .u8 b] w (Out w P m n1 n2 n3 ps num q r (ctl b)) := by
  have e91 : (b == 91) = false := by simp; omega
  have e93 : (b == 93) = false := by simp; omega
  have e80 : (b == 80) = false := by simp; omega
  have e88 : (b == 88) = false := by simp; omega
  have e94 : (b == 94) = false := by simp; omega
  have e95 : (b == 95) = false := by simp; omega
  have W1 := hide (within_val b 48 126 false (by simp; omega))
  have W2 := hide (within_val b 32 47 false (by simp; omega))
  have p1 : (b < 32) = True := eq_true h4
  have LV := fun W => hide (leave_no m n1 n2 n3 A n c num q r b h1 h2 h3 W)
  have CV := fun W => hide (control_val b W)
  have HS := hide hs
  clear h1 h2 h3 h4 hs
  go_enter Try.func20, Try.ntmps20
  go_upto_region 2 with (go_at_call 26; with_reducible refine (LV _).out.mono ?_; rintro e w9 ⟨rfl, hb9⟩; have hz9 := hb9.size; simp at hz9; obtain ⟨hc9, hf9⟩ := be_cells hb9; have z9 : w.heap.size < w9.heap.size := (by omega); have y9 : w.heap.size + 1 < w9.heap.size := (by omega))
  apply wp_letter2 (w.heap.size) w (w.heap.size) 33 (w.heap.size + 1) 33
  case h0 => (repeat (first | (with_reducible assumption) | (with_reducible apply bs_same) | (with_reducible apply bs_far; case hp => (dsimp only; omega)) | (with_reducible apply bs_drew) | (with_reducible apply bs_drewN) | (with_reducible apply bs_new; (first | (with_reducible rfl) | (simp; done))) | (with_reducible apply bs_alloc) | (with_reducible apply bs_below; (case hb => with_reducible assumption); (case hB => first | omega | (simp; omega) | (simp; done)))))
  case h1 => (repeat (first | (with_reducible assumption) | (with_reducible apply bs_same) | (with_reducible apply bs_far; case hp => (dsimp only; omega)) | (with_reducible apply bs_drew) | (with_reducible apply bs_drewN) | (with_reducible apply bs_new; (first | (with_reducible rfl) | (simp; done))) | (with_reducible apply bs_alloc) | (with_reducible apply bs_below; (case hb => with_reducible assumption); (case hB => first | omega | (simp; omega) | (simp; done)))))
  case hb => (repeat (first | (with_reducible assumption) | with_reducible exact be_refl _ | (with_reducible refine be_set ?_ (by dsimp only; omega)) | (with_reducible apply be_drew) | (with_reducible apply be_drewN) | (with_reducible refine be_alloc ?_ (by first | omega | (simp; omega) | simp)) | (with_reducible refine be_call (by with_reducible assumption) (by first | omega | (simp; omega) | simp) ?_)))
  intro w1_ k1_0 k1_1 HB1
  try simp only [List.setIfInBounds_toArray, List.set_cons_zero, List.set_cons_succ] at k1_0 k1_1
  obtain ⟨c1_0_0, c1_0_1, c1_0_2, c1_0_3, c1_0_4, c1_0_5, c1_0_6, c1_0_7, f1_0⟩ := cells8 k1_0
  have s1_0 := bs_lt k1_0
  obtain ⟨c1_1_0, c1_1_1, c1_1_2, c1_1_3, c1_1_4, c1_1_5, c1_1_6, c1_1_7, f1_1⟩ := cells8 k1_1
  have s1_1 := bs_lt k1_1
  go_upto_region 15 with (first | (go_at_call 28; with_reducible refine (W1.out _).mono ?_; rintro e v ⟨rfl, hv⟩; subst v) | (go_at_call 28; with_reducible refine (W2.out _).mono ?_; rintro e v ⟨rfl, hv⟩; subst v) | go_in)
  have nb : w.heap.size ≠ w.heap.size + 1 := by omega
  have nb2 : w.heap.size + 1 ≠ w.heap.size := by omega
  (first | (go_region_held3 (fun w' => w'.cell? ⟨w.heap.size, 0, none⟩ = some (.int .i64 m) ∧ w'.cell? ⟨w.heap.size, 1, none⟩ = some (.int .i64 n1) ∧ w'.cell? ⟨w.heap.size, 2, none⟩ = some (.int .i64 n2) ∧ w'.cell? ⟨w.heap.size, 3, none⟩ = some (.int .i64 n3) ∧ w'.cell? ⟨w.heap.size, 4, none⟩ = some (.slice A n c) ∧ w'.cell? ⟨w.heap.size, 5, none⟩ = some (.int .i64 num) ∧ w'.cell? ⟨w.heap.size, 6, none⟩ = some (.bool q) ∧ w'.cell? ⟨w.heap.size, 7, none⟩ = some (.bool r)) ((first | go_keep | (simp [*]; done))) ((go_at_call 29; with_reducible refine (CV _).out.mono ?_; rintro e w7 ⟨v8, rfl, ha, hb⟩; obtain ⟨hk, hfk⟩ := be_known hb; have HA := hide ha; have HB7 := hide hb; clear ha hb))) | fail "region")
  go_wp2
  have hb7 := HB7.out
  have hz7 := hb7.size
  have hn7 := HA.out.own
  have hdz : w1_.drew.heap.size = w1_.heap.size := rfl
  rw [hdz] at hz7 hn7
  refine bodyPost_ret (results_ct rfl _ _ (w.heap.size + 1) 33 #[.int .i64 m, .int .i64 n1, .int .i64 n2, .int .i64 n3, .slice A n c, .int .i64 num, .bool q, .bool r] (0, 0) _ rfl ?_ Try.underlying33 rfl (by kernel_rfl)) rfl ?_
  · (apply bs_eq; (case h => (repeat (first | (with_reducible assumption) | (with_reducible apply bs_same) | (with_reducible apply bs_far; case hp => (dsimp only; omega)) | (with_reducible apply bs_drew) | (with_reducible apply bs_drewN) | (with_reducible apply bs_new; (first | (with_reducible rfl) | (simp; done))) | (with_reducible apply bs_alloc) | (with_reducible apply bs_below; (case hb => with_reducible assumption); (case hB => first | omega | (simp; omega) | (simp; done)))))); (case e => rfl))
  · refine ⟨_, v8, rfl, Kd.V_mono (par_old HS.out (by (repeat (first | (with_reducible assumption) | with_reducible exact be_refl _ | (with_reducible refine be_set ?_ (by dsimp only; omega)) | (with_reducible apply be_drew) | (with_reducible apply be_drewN) | (with_reducible refine be_alloc ?_ (by first | omega | (simp; omega) | simp)) | (with_reducible refine be_call (by with_reducible assumption) (by first | omega | (simp; omega) | simp) ?_)))) (fun k hk => by have := hn7 k hk; omega)) (fun k hk => ⟨.inl hk.1, hk.2⟩), ActR.lower (base := w1_.heap.size) ?_ (by omega), by (repeat (first | (with_reducible assumption) | with_reducible exact be_refl _ | (with_reducible refine be_set ?_ (by dsimp only; omega)) | (with_reducible apply be_drew) | (with_reducible apply be_drewN) | (with_reducible refine be_alloc ?_ (by first | omega | (simp; omega) | simp)) | (with_reducible refine be_call (by with_reducible assumption) (by first | omega | (simp; omega) | simp) ?_)))⟩
    repeat (with_reducible refine ActR.set ?_ (by dsimp only; omega) _)
    exact HA.out
end
end Go.Proofs.Ytiahfgcfgpakiaa.EscaVal


