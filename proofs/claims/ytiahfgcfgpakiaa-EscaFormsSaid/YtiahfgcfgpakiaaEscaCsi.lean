/- What the functions of the package esca hand back, way by way, further: contracts, each for every escape that is begun and every byte of its kind. -/
import Derived.Test.YtiahfgcfgpakiaaEscaCtl
namespace Go.Proofs.Ytiahfgcfgpakiaa.EscaVal
open Go Go.RowKit Go.Proofs.YtiahfgcfgpakiaaKit Go.Proofs.Ytiahfgcfgpakiaa.Mem Go.Proofs.YtiahfgcfgpakiaaW.PrintWords Go.Proofs.YtiahfgcfgpakiaaW.PrintLast
set_option linter.unusedVariables false
set_option linter.unusedSimpArgs false
theorem R_put {W : World} {base : Nat} {v : Value} {xs : List Int} {p : Addr} (h : Kd.R (Kd.int .i64) 3 W base (fun k => base ≤ k) v xs) (hp : p.block < base) (x : Value) : Kd.R (Kd.int .i64) 3 (W.setCell p x) base (fun k => base ≤ k) v xs := Kd.R_far h (fun k hk => by omega) x
theorem R_new {w W : World} {base : Nat} {P : Nat → Prop} {v : Value} {xs : List Int} (h : Kd.R (Kd.int .i64) 3 W base (fun k => base ≤ k) v xs) (hb : w.heap.size ≤ base) (v8 : Value) (h8 : ∀ k, v8.ownBlock = some k → W.heap.size ≤ k) :
    Kd.V (Kd.int .i64) 3 W w.heap.size (fun k => (P k ∨ w.heap.size ≤ k) ∧ some k ≠ v8.ownBlock) v xs :=
  Kd.V_mono (Kd.R_V (base' := w.heap.size) (Kd.R_bound h)) (fun k hk => ⟨.inr (Nat.le_trans hb hk.2.1), fun e => by have := h8 k e.symm; have := hk.2.2.1; omega⟩)
theorem R_new_nil {w W : World} {base : Nat} {P : Nat → Prop} {v : Value} {xs : List Int} (h : Kd.R (Kd.int .i64) 3 W base (fun k => base ≤ k) v xs) (hb : w.heap.size ≤ base) :
    Kd.V (Kd.int .i64) 3 W w.heap.size (fun k => (P k ∨ w.heap.size ≤ k) ∧ some k ≠ (Value.slice none 0 0).ownBlock) v xs := R_new h hb _ (fun k hk => by simp [Value.ownBlock] at hk)
def PS (w : World) (A : Option Addr) (n : Nat) (ps : List Int) : Prop := ps.length = n ∧ n ≤ 1000 ∧ Kd.C (Kd.int .i64) w A n ps
/-- What stands behind the first lines of csi: the escape in a variable, with parameters of its own. -/
def Pre (w : World) (m n1 n2 n3 : Int) (v0 : Value) (num : Int) (q r : Bool) (ps : List Int) (W : World) : Prop :=
  W.heap[w.heap.size]? = some (.cells #[.int .i64 m, .int .i64 n1, .int .i64 n2, .int .i64 n3, v0, .int .i64 num, .bool q, .bool r] 33 (0, 0)) ∧ W.heap[w.heap.size + 1]? = some (.cells #[.int .i64 0, .int .i64 0, .int .i64 0, .int .i64 0, .slice none 0 0, .int .i64 0, .bool false, .bool false] 33 (0, 0)) ∧
  Kd.R (Kd.int .i64) 3 W (w.heap.size + 2) (fun k => w.heap.size + 2 ≤ k) v0 ps ∧ Below w.heap.size w W
section
variable (m n1 n2 n3 : Int) (A : Option Addr) (n c : Nat) (num : Int) (q r : Bool) (w : World) (P : Nat → Prop) (ps : List Int)
theorem csi_esc : Calls Try.prog 21 #[.agg #[.int .i64 m, .int .i64 n1, .int .i64 n2, .int .i64 n3, .slice A n c, .int .i64 num, .bool q, .bool r], .int .u8 27] w (Out w P 1 n1 n2 n3 [] 0 false false []) := by
  have LV := fun W => hide (leave_esc m n1 n2 n3 A n c num q r W)
  go_enter Try.func21, Try.ntmps21
  go_upto_region 2 with (go_at_call 26; with_reducible refine (LV _).out.mono ?_; rintro e w9 ⟨rfl, hb9⟩; have hz9 := hb9.size; simp at hz9; obtain ⟨hc9, hf9⟩ := be_cells hb9; have z9 : w.heap.size < w9.heap.size := (by omega); have y9 : w.heap.size + 1 < w9.heap.size := (by omega))
  apply wp_letter3 (w.heap.size) w (w.heap.size) 33 (w.heap.size + 1) 33 (w9.heap.size) 33
  case h0 => (repeat (first | (with_reducible assumption) | (with_reducible apply bs_same) | (with_reducible apply bs_far; case hp => (dsimp only; omega)) | (with_reducible apply bs_drew) | (with_reducible apply bs_drewN) | (with_reducible apply bs_new; (first | (with_reducible rfl) | (simp; done))) | (with_reducible apply bs_alloc) | (with_reducible apply bs_below; (case hb => with_reducible assumption); (case hB => first | omega | (simp; omega) | (simp; done)))))
  case h1 => (repeat (first | (with_reducible assumption) | (with_reducible apply bs_same) | (with_reducible apply bs_far; case hp => (dsimp only; omega)) | (with_reducible apply bs_drew) | (with_reducible apply bs_drewN) | (with_reducible apply bs_new; (first | (with_reducible rfl) | (simp; done))) | (with_reducible apply bs_alloc) | (with_reducible apply bs_below; (case hb => with_reducible assumption); (case hB => first | omega | (simp; omega) | (simp; done)))))
  case h2 => (repeat (first | (with_reducible assumption) | (with_reducible apply bs_same) | (with_reducible apply bs_far; case hp => (dsimp only; omega)) | (with_reducible apply bs_drew) | (with_reducible apply bs_drewN) | (with_reducible apply bs_new; (first | (with_reducible rfl) | (simp; done))) | (with_reducible apply bs_alloc) | (with_reducible apply bs_below; (case hb => with_reducible assumption); (case hB => first | omega | (simp; omega) | (simp; done)))))
  case hb => (repeat (first | (with_reducible assumption) | with_reducible exact be_refl _ | (with_reducible refine be_set ?_ (by dsimp only; omega)) | (with_reducible apply be_drew) | (with_reducible apply be_drewN) | (with_reducible refine be_alloc ?_ (by first | omega | (simp; omega) | simp)) | (with_reducible refine be_call (by with_reducible assumption) (by first | omega | (simp; omega) | simp) ?_)))
  intro w1_ k1_0 k1_1 k1_2 HB1
  try simp only [List.setIfInBounds_toArray, List.set_cons_zero, List.set_cons_succ] at k1_0 k1_1 k1_2
  obtain ⟨c1_0_0, c1_0_1, c1_0_2, c1_0_3, c1_0_4, c1_0_5, c1_0_6, c1_0_7, f1_0⟩ := cells8 k1_0
  have s1_0 := bs_lt k1_0
  obtain ⟨c1_1_0, c1_1_1, c1_1_2, c1_1_3, c1_1_4, c1_1_5, c1_1_6, c1_1_7, f1_1⟩ := cells8 k1_1
  have s1_1 := bs_lt k1_1
  obtain ⟨c1_2_0, c1_2_1, c1_2_2, c1_2_3, c1_2_4, c1_2_5, c1_2_6, c1_2_7, f1_2⟩ := cells8 k1_2
  have s1_2 := bs_lt k1_2
  go_wp2
  refine bodyPost_ret (results_ct rfl _ _ (w.heap.size + 1) 33 #[.int .i64 1, .int .i64 n1, .int .i64 n2, .int .i64 n3, .slice none 0 0, .int .i64 0, .bool false, .bool false] (0, 0) _ rfl ?_ Try.underlying33 rfl (by kernel_rfl)) rfl ?_
  · (apply bs_eq; (case h => (repeat (first | (with_reducible assumption) | (with_reducible apply bs_same) | (with_reducible apply bs_far; case hp => (dsimp only; omega)) | (with_reducible apply bs_drew) | (with_reducible apply bs_drewN) | (with_reducible apply bs_new; (first | (with_reducible rfl) | (simp; done))) | (with_reducible apply bs_alloc) | (with_reducible apply bs_below; (case hb => with_reducible assumption); (case hB => first | omega | (simp; omega) | (simp; done)))))); (case e => rfl))
  · exact .nil (by (repeat (first | (with_reducible assumption) | with_reducible exact be_refl _ | (with_reducible refine be_set ?_ (by dsimp only; omega)) | (with_reducible apply be_drew) | (with_reducible apply be_drewN) | (with_reducible refine be_alloc ?_ (by first | omega | (simp; omega) | simp)) | (with_reducible refine be_call (by with_reducible assumption) (by first | omega | (simp; omega) | simp) ?_))))
theorem csi_can : Calls Try.prog 21 #[.agg #[.int .i64 m, .int .i64 n1, .int .i64 n2, .int .i64 n3, .slice A n c, .int .i64 num, .bool q, .bool r], .int .u8 24] w (Out w P 0 n1 n2 n3 [] 0 false false []) := by
  have LV := fun W => hide (leave_can m n1 n2 n3 A n c num q r W)
  go_enter Try.func21, Try.ntmps21
  go_upto_region 2 with (go_at_call 26; with_reducible refine (LV _).out.mono ?_; rintro e w9 ⟨rfl, hb9⟩; have hz9 := hb9.size; simp at hz9; obtain ⟨hc9, hf9⟩ := be_cells hb9; have z9 : w.heap.size < w9.heap.size := (by omega); have y9 : w.heap.size + 1 < w9.heap.size := (by omega))
  apply wp_letter3 (w.heap.size) w (w.heap.size) 33 (w.heap.size + 1) 33 (w9.heap.size) 33
  case h0 => (repeat (first | (with_reducible assumption) | (with_reducible apply bs_same) | (with_reducible apply bs_far; case hp => (dsimp only; omega)) | (with_reducible apply bs_drew) | (with_reducible apply bs_drewN) | (with_reducible apply bs_new; (first | (with_reducible rfl) | (simp; done))) | (with_reducible apply bs_alloc) | (with_reducible apply bs_below; (case hb => with_reducible assumption); (case hB => first | omega | (simp; omega) | (simp; done)))))
  case h1 => (repeat (first | (with_reducible assumption) | (with_reducible apply bs_same) | (with_reducible apply bs_far; case hp => (dsimp only; omega)) | (with_reducible apply bs_drew) | (with_reducible apply bs_drewN) | (with_reducible apply bs_new; (first | (with_reducible rfl) | (simp; done))) | (with_reducible apply bs_alloc) | (with_reducible apply bs_below; (case hb => with_reducible assumption); (case hB => first | omega | (simp; omega) | (simp; done)))))
  case h2 => (repeat (first | (with_reducible assumption) | (with_reducible apply bs_same) | (with_reducible apply bs_far; case hp => (dsimp only; omega)) | (with_reducible apply bs_drew) | (with_reducible apply bs_drewN) | (with_reducible apply bs_new; (first | (with_reducible rfl) | (simp; done))) | (with_reducible apply bs_alloc) | (with_reducible apply bs_below; (case hb => with_reducible assumption); (case hB => first | omega | (simp; omega) | (simp; done)))))
  case hb => (repeat (first | (with_reducible assumption) | with_reducible exact be_refl _ | (with_reducible refine be_set ?_ (by dsimp only; omega)) | (with_reducible apply be_drew) | (with_reducible apply be_drewN) | (with_reducible refine be_alloc ?_ (by first | omega | (simp; omega) | simp)) | (with_reducible refine be_call (by with_reducible assumption) (by first | omega | (simp; omega) | simp) ?_)))
  intro w1_ k1_0 k1_1 k1_2 HB1
  try simp only [List.setIfInBounds_toArray, List.set_cons_zero, List.set_cons_succ] at k1_0 k1_1 k1_2
  obtain ⟨c1_0_0, c1_0_1, c1_0_2, c1_0_3, c1_0_4, c1_0_5, c1_0_6, c1_0_7, f1_0⟩ := cells8 k1_0
  have s1_0 := bs_lt k1_0
  obtain ⟨c1_1_0, c1_1_1, c1_1_2, c1_1_3, c1_1_4, c1_1_5, c1_1_6, c1_1_7, f1_1⟩ := cells8 k1_1
  have s1_1 := bs_lt k1_1
  obtain ⟨c1_2_0, c1_2_1, c1_2_2, c1_2_3, c1_2_4, c1_2_5, c1_2_6, c1_2_7, f1_2⟩ := cells8 k1_2
  have s1_2 := bs_lt k1_2
  go_wp2
  refine bodyPost_ret (results_ct rfl _ _ (w.heap.size + 1) 33 #[.int .i64 0, .int .i64 n1, .int .i64 n2, .int .i64 n3, .slice none 0 0, .int .i64 0, .bool false, .bool false] (0, 0) _ rfl ?_ Try.underlying33 rfl (by kernel_rfl)) rfl ?_
  · (apply bs_eq; (case h => (repeat (first | (with_reducible assumption) | (with_reducible apply bs_same) | (with_reducible apply bs_far; case hp => (dsimp only; omega)) | (with_reducible apply bs_drew) | (with_reducible apply bs_drewN) | (with_reducible apply bs_new; (first | (with_reducible rfl) | (simp; done))) | (with_reducible apply bs_alloc) | (with_reducible apply bs_below; (case hb => with_reducible assumption); (case hB => first | omega | (simp; omega) | (simp; done)))))); (case e => rfl))
  · exact .nil (by (repeat (first | (with_reducible assumption) | with_reducible exact be_refl _ | (with_reducible refine be_set ?_ (by dsimp only; omega)) | (with_reducible apply be_drew) | (with_reducible apply be_drewN) | (with_reducible refine be_alloc ?_ (by first | omega | (simp; omega) | simp)) | (with_reducible refine be_call (by with_reducible assumption) (by first | omega | (simp; omega) | simp) ?_))))
theorem csi_sub : Calls Try.prog 21 #[.agg #[.int .i64 m, .int .i64 n1, .int .i64 n2, .int .i64 n3, .slice A n c, .int .i64 num, .bool q, .bool r], .int .u8 26] w (Out w P 0 n1 n2 n3 [] 0 false false []) := by
  have LV := fun W => hide (leave_sub m n1 n2 n3 A n c num q r W)
  go_enter Try.func21, Try.ntmps21
  go_upto_region 2 with (go_at_call 26; with_reducible refine (LV _).out.mono ?_; rintro e w9 ⟨rfl, hb9⟩; have hz9 := hb9.size; simp at hz9; obtain ⟨hc9, hf9⟩ := be_cells hb9; have z9 : w.heap.size < w9.heap.size := (by omega); have y9 : w.heap.size + 1 < w9.heap.size := (by omega))
  apply wp_letter3 (w.heap.size) w (w.heap.size) 33 (w.heap.size + 1) 33 (w9.heap.size) 33
  case h0 => (repeat (first | (with_reducible assumption) | (with_reducible apply bs_same) | (with_reducible apply bs_far; case hp => (dsimp only; omega)) | (with_reducible apply bs_drew) | (with_reducible apply bs_drewN) | (with_reducible apply bs_new; (first | (with_reducible rfl) | (simp; done))) | (with_reducible apply bs_alloc) | (with_reducible apply bs_below; (case hb => with_reducible assumption); (case hB => first | omega | (simp; omega) | (simp; done)))))
  case h1 => (repeat (first | (with_reducible assumption) | (with_reducible apply bs_same) | (with_reducible apply bs_far; case hp => (dsimp only; omega)) | (with_reducible apply bs_drew) | (with_reducible apply bs_drewN) | (with_reducible apply bs_new; (first | (with_reducible rfl) | (simp; done))) | (with_reducible apply bs_alloc) | (with_reducible apply bs_below; (case hb => with_reducible assumption); (case hB => first | omega | (simp; omega) | (simp; done)))))
  case h2 => (repeat (first | (with_reducible assumption) | (with_reducible apply bs_same) | (with_reducible apply bs_far; case hp => (dsimp only; omega)) | (with_reducible apply bs_drew) | (with_reducible apply bs_drewN) | (with_reducible apply bs_new; (first | (with_reducible rfl) | (simp; done))) | (with_reducible apply bs_alloc) | (with_reducible apply bs_below; (case hb => with_reducible assumption); (case hB => first | omega | (simp; omega) | (simp; done)))))
  case hb => (repeat (first | (with_reducible assumption) | with_reducible exact be_refl _ | (with_reducible refine be_set ?_ (by dsimp only; omega)) | (with_reducible apply be_drew) | (with_reducible apply be_drewN) | (with_reducible refine be_alloc ?_ (by first | omega | (simp; omega) | simp)) | (with_reducible refine be_call (by with_reducible assumption) (by first | omega | (simp; omega) | simp) ?_)))
  intro w1_ k1_0 k1_1 k1_2 HB1
  try simp only [List.setIfInBounds_toArray, List.set_cons_zero, List.set_cons_succ] at k1_0 k1_1 k1_2
  obtain ⟨c1_0_0, c1_0_1, c1_0_2, c1_0_3, c1_0_4, c1_0_5, c1_0_6, c1_0_7, f1_0⟩ := cells8 k1_0
  have s1_0 := bs_lt k1_0
  obtain ⟨c1_1_0, c1_1_1, c1_1_2, c1_1_3, c1_1_4, c1_1_5, c1_1_6, c1_1_7, f1_1⟩ := cells8 k1_1
  have s1_1 := bs_lt k1_1
  obtain ⟨c1_2_0, c1_2_1, c1_2_2, c1_2_3, c1_2_4, c1_2_5, c1_2_6, c1_2_7, f1_2⟩ := cells8 k1_2
  have s1_2 := bs_lt k1_2
  go_wp2
  refine bodyPost_ret (results_ct rfl _ _ (w.heap.size + 1) 33 #[.int .i64 0, .int .i64 n1, .int .i64 n2, .int .i64 n3, .slice none 0 0, .int .i64 0, .bool false, .bool false] (0, 0) _ rfl ?_ Try.underlying33 rfl (by kernel_rfl)) rfl ?_
  · (apply bs_eq; (case h => (repeat (first | (with_reducible assumption) | (with_reducible apply bs_same) | (with_reducible apply bs_far; case hp => (dsimp only; omega)) | (with_reducible apply bs_drew) | (with_reducible apply bs_drewN) | (with_reducible apply bs_new; (first | (with_reducible rfl) | (simp; done))) | (with_reducible apply bs_alloc) | (with_reducible apply bs_below; (case hb => with_reducible assumption); (case hB => first | omega | (simp; omega) | (simp; done)))))); (case e => rfl))
  · exact .nil (by (repeat (first | (with_reducible assumption) | with_reducible exact be_refl _ | (with_reducible refine be_set ?_ (by dsimp only; omega)) | (with_reducible apply be_drew) | (with_reducible apply be_drewN) | (with_reducible refine be_alloc ?_ (by first | omega | (simp; omega) | simp)) | (with_reducible refine be_call (by with_reducible assumption) (by first | omega | (simp; omega) | simp) ?_))))
set_option maxHeartbeats 2000000 in
theorem csi_skp (hs : PS w A n ps) (b : Int) (h4 : 32 ≤ b) (h5 : b ≤ 63) (h6 : b < 48 ∨ 57 < b) (h7 : b ≠ 59) (h8 : b ≠ 63) : Calls Try.prog 21 #[.agg #[.int .i64 m, .int .i64 n1, .int .i64 n2, .int .i64 n3, .slice A n c, .int .i64 num, .bool q, .bool r], .int .u8 b] w (Out w P m n1 n2 n3 ps (num) q true []) := by
  have e59 : (b == 59) = false := by simp; omega
  have e63 : (b == 63) = false := by simp; omega
  have W1 := hide (within_val b 48 57 false (by simp; omega))
  have W2 := hide (within_val b 32 63 true (by simp; omega))
  have LV := fun W => hide (leave_no m n1 n2 n3 A n c num q r b (by omega) (by omega) (by omega) W)
  obtain ⟨hn, hl, hC⟩ := hs
  have CV := fun W hb => hide (clone_val W A n c ps hn (C_at hC hb) (by omega))
  have HN := hide hn
  have HL := hide hl
  clear hn hl hC
  go_enter Try.func21, Try.ntmps21
  go_upto_region 2 with (go_at_call 26; with_reducible refine (LV _).out.mono ?_; rintro e w9 ⟨rfl, hb9⟩; have hz9 := hb9.size; simp at hz9; obtain ⟨hc9, hf9⟩ := be_cells hb9; have z9 : w.heap.size < w9.heap.size := (by omega); have y9 : w.heap.size + 1 < w9.heap.size := (by omega))
  apply wp_letter2 (w.heap.size) w (w.heap.size) 33 (w.heap.size + 1) 33
  case h0 => (repeat (first | (with_reducible assumption) | (with_reducible apply bs_same) | (with_reducible apply bs_far; case hp => (dsimp only; omega)) | (with_reducible apply bs_drew) | (with_reducible apply bs_drewN) | (with_reducible apply bs_new; (first | (with_reducible rfl) | (simp; done))) | (with_reducible apply bs_alloc) | (with_reducible apply bs_below; (case hb => with_reducible assumption); (case hB => first | omega | (simp; omega) | (simp; done)))))
  case h1 => (repeat (first | (with_reducible assumption) | (with_reducible apply bs_same) | (with_reducible apply bs_far; case hp => (dsimp only; omega)) | (with_reducible apply bs_drew) | (with_reducible apply bs_drewN) | (with_reducible apply bs_new; (first | (with_reducible rfl) | (simp; done))) | (with_reducible apply bs_alloc) | (with_reducible apply bs_below; (case hb => with_reducible assumption); (case hB => first | omega | (simp; omega) | (simp; done)))))
  case hb => (repeat (first | (with_reducible assumption) | with_reducible exact be_refl _ | (with_reducible refine be_set ?_ (by dsimp only; omega)) | (with_reducible apply be_drew) | (with_reducible apply be_drewN) | (with_reducible refine be_alloc ?_ (by first | omega | (simp; omega) | simp)) | (with_reducible refine be_call (by with_reducible assumption) (by first | omega | (simp; omega) | simp) ?_)))
  intro w1_ k1_0 k1_1 HB1
  try simp only [List.setIfInBounds_toArray, List.set_cons_zero, List.set_cons_succ] at k1_0 k1_1
  obtain ⟨c1_0_0, c1_0_1, c1_0_2, c1_0_3, c1_0_4, c1_0_5, c1_0_6, c1_0_7, f1_0⟩ := cells8 k1_0
  have s1_0 := bs_lt k1_0
  obtain ⟨c1_1_0, c1_1_1, c1_1_2, c1_1_3, c1_1_4, c1_1_5, c1_1_6, c1_1_7, f1_1⟩ := cells8 k1_1
  have s1_1 := bs_lt k1_1
  go_upto_region 5 with (go_at_call 17; with_reducible refine (CV _ HB1).out.mono ?_; rintro e w7 ⟨v0, rfl, hR, hb7⟩; obtain ⟨A0, c0, hv0⟩ := Kd.R_slice hR; rw [HN.out] at hv0; subst hv0; obtain ⟨hc7, hf7⟩ := be_cells hb7; have hz7 := hb7.size)
  refine wp_letter (Pre w m n1 n2 n3 (.slice A0 n c0) num q r ps) ⟨?_, ?_, ?_, ?_⟩ ?_
  · (apply bs_eq; (case h => (repeat (first | (with_reducible assumption) | (with_reducible apply bs_same) | (with_reducible apply bs_far; case hp => (dsimp only; omega)) | (with_reducible apply bs_drew) | (with_reducible apply bs_drewN) | (with_reducible apply bs_new; (first | (with_reducible rfl) | (simp; done))) | (with_reducible apply bs_alloc) | (with_reducible apply bs_below; (case hb => with_reducible assumption); (case hB => first | omega | (simp; omega) | (simp; done)))))); (case e => rfl))
  · (repeat (first | (with_reducible assumption) | (with_reducible apply bs_same) | (with_reducible apply bs_far; case hp => (dsimp only; omega)) | (with_reducible apply bs_drew) | (with_reducible apply bs_drewN) | (with_reducible apply bs_new; (first | (with_reducible rfl) | (simp; done))) | (with_reducible apply bs_alloc) | (with_reducible apply bs_below; (case hb => with_reducible assumption); (case hB => first | omega | (simp; omega) | (simp; done)))))
  · exact R_put (Kd.R_mono (Kd.R_lower (R_base hR) (show w.heap.size + 2 ≤ w1_.heap.size by omega)) (fun k hk => by omega)) (by dsimp only; omega) _
  · (repeat (first | (with_reducible assumption) | with_reducible exact be_refl _ | (with_reducible refine be_set ?_ (by dsimp only; omega)) | (with_reducible apply be_drew) | (with_reducible apply be_drewN) | (with_reducible refine be_alloc ?_ (by first | omega | (simp; omega) | simp)) | (with_reducible refine be_call (by with_reducible assumption) (by first | omega | (simp; omega) | simp) ?_)))
  clear hR hb7 hc7 hf7 hz7 LV CV HB1 k1_0 k1_1 c1_0_0 c1_0_1 c1_0_2 c1_0_3 c1_0_4 c1_0_5 c1_0_6 c1_0_7 c1_1_0 c1_1_1 c1_1_2 c1_1_3 c1_1_4 c1_1_5 c1_1_6 c1_1_7 f1_0 f1_1 s1_0 s1_1
  intro w2 hP
  obtain ⟨k0, k1, kR, kB⟩ := hP
  have KR := hide kR
  have s0 := bs_lt k0
  have s1 := bs_lt k1
  obtain ⟨x0, x1, x2, x3, x4, x5, x6, x7, f0⟩ := cells8 k0
  obtain ⟨y0, y1, y2, y3, y4, y5, y6, y7, f1⟩ := cells8 k1
  clear kR
  go_wp2_with (first | (go_at_call 28; with_reducible refine (W1.out _).mono ?_; rintro e v ⟨rfl, hv⟩; subst v) | (go_at_call 28; with_reducible refine (W2.out _).mono ?_; rintro e v ⟨rfl, hv⟩; subst v) | go_in)
  refine bodyPost_ret (results_ct rfl _ _ (w.heap.size + 1) 33 #[.int .i64 m, .int .i64 n1, .int .i64 n2, .int .i64 n3, .slice A0 n c0, .int .i64 num, .bool q, .bool true] (0, 0) _ rfl ?_ Try.underlying33 rfl (by kernel_rfl)) rfl ?_
  · (apply bs_eq; (case h => (repeat (first | (with_reducible assumption) | (with_reducible apply bs_same) | (with_reducible apply bs_far; case hp => (dsimp only; omega)) | (with_reducible apply bs_drew) | (with_reducible apply bs_drewN) | (with_reducible apply bs_new; (first | (with_reducible rfl) | (simp; done))) | (with_reducible apply bs_alloc) | (with_reducible apply bs_below; (case hb => with_reducible assumption); (case hB => first | omega | (simp; omega) | (simp; done)))))); (case e => rfl))
  · refine ⟨_, _, rfl, R_new_nil (base := w.heap.size + 2) ?_ (by omega), .nil _ _, by (repeat (first | (with_reducible assumption) | with_reducible exact be_refl _ | (with_reducible refine be_set ?_ (by dsimp only; omega)) | (with_reducible apply be_drew) | (with_reducible apply be_drewN) | (with_reducible refine be_alloc ?_ (by first | omega | (simp; omega) | simp)) | (with_reducible refine be_call (by with_reducible assumption) (by first | omega | (simp; omega) | simp) ?_)))⟩
    repeat (with_reducible refine R_put ?_ (by dsimp only; omega) _)
    exact KR.out
set_option maxHeartbeats 2000000 in
theorem csi_oth (hs : PS w A n ps) (b : Int) (h4 : 126 < b) : Calls Try.prog 21 #[.agg #[.int .i64 m, .int .i64 n1, .int .i64 n2, .int .i64 n3, .slice A n c, .int .i64 num, .bool q, .bool r], .int .u8 b] w (Out w P m n1 n2 n3 ps (num) q r []) := by
  have e59 : (b == 59) = false := by simp; omega
  have e63 : (b == 63) = false := by simp; omega
  have W1 := hide (within_val b 48 57 false (by simp; omega))
  have W2 := hide (within_val b 32 63 false (by simp; omega))
  have W3 := hide (within_val b 64 126 false (by simp; omega))
  have p1 : (b < 32) = False := eq_false (by omega)
  have LV := fun W => hide (leave_no m n1 n2 n3 A n c num q r b (by omega) (by omega) (by omega) W)
  obtain ⟨hn, hl, hC⟩ := hs
  have CV := fun W hb => hide (clone_val W A n c ps hn (C_at hC hb) (by omega))
  have HN := hide hn
  have HL := hide hl
  clear hn hl hC
  go_enter Try.func21, Try.ntmps21
  go_upto_region 2 with (go_at_call 26; with_reducible refine (LV _).out.mono ?_; rintro e w9 ⟨rfl, hb9⟩; have hz9 := hb9.size; simp at hz9; obtain ⟨hc9, hf9⟩ := be_cells hb9; have z9 : w.heap.size < w9.heap.size := (by omega); have y9 : w.heap.size + 1 < w9.heap.size := (by omega))
  apply wp_letter2 (w.heap.size) w (w.heap.size) 33 (w.heap.size + 1) 33
  case h0 => (repeat (first | (with_reducible assumption) | (with_reducible apply bs_same) | (with_reducible apply bs_far; case hp => (dsimp only; omega)) | (with_reducible apply bs_drew) | (with_reducible apply bs_drewN) | (with_reducible apply bs_new; (first | (with_reducible rfl) | (simp; done))) | (with_reducible apply bs_alloc) | (with_reducible apply bs_below; (case hb => with_reducible assumption); (case hB => first | omega | (simp; omega) | (simp; done)))))
  case h1 => (repeat (first | (with_reducible assumption) | (with_reducible apply bs_same) | (with_reducible apply bs_far; case hp => (dsimp only; omega)) | (with_reducible apply bs_drew) | (with_reducible apply bs_drewN) | (with_reducible apply bs_new; (first | (with_reducible rfl) | (simp; done))) | (with_reducible apply bs_alloc) | (with_reducible apply bs_below; (case hb => with_reducible assumption); (case hB => first | omega | (simp; omega) | (simp; done)))))
  case hb => (repeat (first | (with_reducible assumption) | with_reducible exact be_refl _ | (with_reducible refine be_set ?_ (by dsimp only; omega)) | (with_reducible apply be_drew) | (with_reducible apply be_drewN) | (with_reducible refine be_alloc ?_ (by first | omega | (simp; omega) | simp)) | (with_reducible refine be_call (by with_reducible assumption) (by first | omega | (simp; omega) | simp) ?_)))
  intro w1_ k1_0 k1_1 HB1
  try simp only [List.setIfInBounds_toArray, List.set_cons_zero, List.set_cons_succ] at k1_0 k1_1
  obtain ⟨c1_0_0, c1_0_1, c1_0_2, c1_0_3, c1_0_4, c1_0_5, c1_0_6, c1_0_7, f1_0⟩ := cells8 k1_0
  have s1_0 := bs_lt k1_0
  obtain ⟨c1_1_0, c1_1_1, c1_1_2, c1_1_3, c1_1_4, c1_1_5, c1_1_6, c1_1_7, f1_1⟩ := cells8 k1_1
  have s1_1 := bs_lt k1_1
  go_upto_region 5 with (go_at_call 17; with_reducible refine (CV _ HB1).out.mono ?_; rintro e w7 ⟨v0, rfl, hR, hb7⟩; obtain ⟨A0, c0, hv0⟩ := Kd.R_slice hR; rw [HN.out] at hv0; subst hv0; obtain ⟨hc7, hf7⟩ := be_cells hb7; have hz7 := hb7.size)
  refine wp_letter (Pre w m n1 n2 n3 (.slice A0 n c0) num q r ps) ⟨?_, ?_, ?_, ?_⟩ ?_
  · (apply bs_eq; (case h => (repeat (first | (with_reducible assumption) | (with_reducible apply bs_same) | (with_reducible apply bs_far; case hp => (dsimp only; omega)) | (with_reducible apply bs_drew) | (with_reducible apply bs_drewN) | (with_reducible apply bs_new; (first | (with_reducible rfl) | (simp; done))) | (with_reducible apply bs_alloc) | (with_reducible apply bs_below; (case hb => with_reducible assumption); (case hB => first | omega | (simp; omega) | (simp; done)))))); (case e => rfl))
  · (repeat (first | (with_reducible assumption) | (with_reducible apply bs_same) | (with_reducible apply bs_far; case hp => (dsimp only; omega)) | (with_reducible apply bs_drew) | (with_reducible apply bs_drewN) | (with_reducible apply bs_new; (first | (with_reducible rfl) | (simp; done))) | (with_reducible apply bs_alloc) | (with_reducible apply bs_below; (case hb => with_reducible assumption); (case hB => first | omega | (simp; omega) | (simp; done)))))
  · exact R_put (Kd.R_mono (Kd.R_lower (R_base hR) (show w.heap.size + 2 ≤ w1_.heap.size by omega)) (fun k hk => by omega)) (by dsimp only; omega) _
  · (repeat (first | (with_reducible assumption) | with_reducible exact be_refl _ | (with_reducible refine be_set ?_ (by dsimp only; omega)) | (with_reducible apply be_drew) | (with_reducible apply be_drewN) | (with_reducible refine be_alloc ?_ (by first | omega | (simp; omega) | simp)) | (with_reducible refine be_call (by with_reducible assumption) (by first | omega | (simp; omega) | simp) ?_)))
  clear hR hb7 hc7 hf7 hz7 LV CV HB1 k1_0 k1_1 c1_0_0 c1_0_1 c1_0_2 c1_0_3 c1_0_4 c1_0_5 c1_0_6 c1_0_7 c1_1_0 c1_1_1 c1_1_2 c1_1_3 c1_1_4 c1_1_5 c1_1_6 c1_1_7 f1_0 f1_1 s1_0 s1_1
  intro w2 hP
  obtain ⟨k0, k1, kR, kB⟩ := hP
  have KR := hide kR
  have s0 := bs_lt k0
  have s1 := bs_lt k1
  obtain ⟨x0, x1, x2, x3, x4, x5, x6, x7, f0⟩ := cells8 k0
  obtain ⟨y0, y1, y2, y3, y4, y5, y6, y7, f1⟩ := cells8 k1
  clear kR
  go_wp2_with (first | (go_at_call 28; with_reducible refine (W1.out _).mono ?_; rintro e v ⟨rfl, hv⟩; subst v) | (go_at_call 28; with_reducible refine (W2.out _).mono ?_; rintro e v ⟨rfl, hv⟩; subst v) | (go_at_call 28; with_reducible refine (W3.out _).mono ?_; rintro e v ⟨rfl, hv⟩; subst v) | go_in)
  refine bodyPost_ret (results_ct rfl _ _ (w.heap.size + 1) 33 #[.int .i64 m, .int .i64 n1, .int .i64 n2, .int .i64 n3, .slice A0 n c0, .int .i64 num, .bool q, .bool r] (0, 0) _ rfl ?_ Try.underlying33 rfl (by kernel_rfl)) rfl ?_
  · (apply bs_eq; (case h => (repeat (first | (with_reducible assumption) | (with_reducible apply bs_same) | (with_reducible apply bs_far; case hp => (dsimp only; omega)) | (with_reducible apply bs_drew) | (with_reducible apply bs_drewN) | (with_reducible apply bs_new; (first | (with_reducible rfl) | (simp; done))) | (with_reducible apply bs_alloc) | (with_reducible apply bs_below; (case hb => with_reducible assumption); (case hB => first | omega | (simp; omega) | (simp; done)))))); (case e => rfl))
  · refine ⟨_, _, rfl, R_new_nil (base := w.heap.size + 2) ?_ (by omega), .nil _ _, by (repeat (first | (with_reducible assumption) | with_reducible exact be_refl _ | (with_reducible refine be_set ?_ (by dsimp only; omega)) | (with_reducible apply be_drew) | (with_reducible apply be_drewN) | (with_reducible refine be_alloc ?_ (by first | omega | (simp; omega) | simp)) | (with_reducible refine be_call (by with_reducible assumption) (by first | omega | (simp; omega) | simp) ?_)))⟩
    repeat (with_reducible refine R_put ?_ (by dsimp only; omega) _)
    exact KR.out
def numP (num b : Int) : Int := if num < 0 then b - 48 else if 65535 < 10 * num + (b - 48) then 65535 else 10 * num + (b - 48)
set_option maxHeartbeats 2000000 in
theorem csi_d0 (hs : PS w A n ps) (b : Int) (h4 : 48 ≤ b) (h5 : b ≤ 57) (h6 : -1 ≤ num) (h7 : num ≤ 65535) (h8 : num < 0) : Calls Try.prog 21 #[.agg #[.int .i64 m, .int .i64 n1, .int .i64 n2, .int .i64 n3, .slice A n c, .int .i64 num, .bool q, .bool r], .int .u8 b] w (Out w P m n1 n2 n3 ps (b - 48) q r []) := by
  have W1 := hide (within_val b 48 57 true (by simp; omega))
  have p1 : (num < 0) = True := eq_true h8
  have p2 : (65535 < b - 48) = False := eq_false (by omega)
  have LV := fun W => hide (leave_no m n1 n2 n3 A n c num q r b (by omega) (by omega) (by omega) W)
  obtain ⟨hn, hl, hC⟩ := hs
  have CV := fun W hb => hide (clone_val W A n c ps hn (C_at hC hb) (by omega))
  have HN := hide hn
  have HL := hide hl
  clear hn hl hC
  go_enter Try.func21, Try.ntmps21
  go_upto_region 2 with (go_at_call 26; with_reducible refine (LV _).out.mono ?_; rintro e w9 ⟨rfl, hb9⟩; have hz9 := hb9.size; simp at hz9; obtain ⟨hc9, hf9⟩ := be_cells hb9; have z9 : w.heap.size < w9.heap.size := (by omega); have y9 : w.heap.size + 1 < w9.heap.size := (by omega))
  apply wp_letter2 (w.heap.size) w (w.heap.size) 33 (w.heap.size + 1) 33
  case h0 => (repeat (first | (with_reducible assumption) | (with_reducible apply bs_same) | (with_reducible apply bs_far; case hp => (dsimp only; omega)) | (with_reducible apply bs_drew) | (with_reducible apply bs_drewN) | (with_reducible apply bs_new; (first | (with_reducible rfl) | (simp; done))) | (with_reducible apply bs_alloc) | (with_reducible apply bs_below; (case hb => with_reducible assumption); (case hB => first | omega | (simp; omega) | (simp; done)))))
  case h1 => (repeat (first | (with_reducible assumption) | (with_reducible apply bs_same) | (with_reducible apply bs_far; case hp => (dsimp only; omega)) | (with_reducible apply bs_drew) | (with_reducible apply bs_drewN) | (with_reducible apply bs_new; (first | (with_reducible rfl) | (simp; done))) | (with_reducible apply bs_alloc) | (with_reducible apply bs_below; (case hb => with_reducible assumption); (case hB => first | omega | (simp; omega) | (simp; done)))))
  case hb => (repeat (first | (with_reducible assumption) | with_reducible exact be_refl _ | (with_reducible refine be_set ?_ (by dsimp only; omega)) | (with_reducible apply be_drew) | (with_reducible apply be_drewN) | (with_reducible refine be_alloc ?_ (by first | omega | (simp; omega) | simp)) | (with_reducible refine be_call (by with_reducible assumption) (by first | omega | (simp; omega) | simp) ?_)))
  intro w1_ k1_0 k1_1 HB1
  try simp only [List.setIfInBounds_toArray, List.set_cons_zero, List.set_cons_succ] at k1_0 k1_1
  obtain ⟨c1_0_0, c1_0_1, c1_0_2, c1_0_3, c1_0_4, c1_0_5, c1_0_6, c1_0_7, f1_0⟩ := cells8 k1_0
  have s1_0 := bs_lt k1_0
  obtain ⟨c1_1_0, c1_1_1, c1_1_2, c1_1_3, c1_1_4, c1_1_5, c1_1_6, c1_1_7, f1_1⟩ := cells8 k1_1
  have s1_1 := bs_lt k1_1
  go_upto_region 5 with (go_at_call 17; with_reducible refine (CV _ HB1).out.mono ?_; rintro e w7 ⟨v0, rfl, hR, hb7⟩; obtain ⟨A0, c0, hv0⟩ := Kd.R_slice hR; rw [HN.out] at hv0; subst hv0; obtain ⟨hc7, hf7⟩ := be_cells hb7; have hz7 := hb7.size)
  refine wp_letter (Pre w m n1 n2 n3 (.slice A0 n c0) num q r ps) ⟨?_, ?_, ?_, ?_⟩ ?_
  · (apply bs_eq; (case h => (repeat (first | (with_reducible assumption) | (with_reducible apply bs_same) | (with_reducible apply bs_far; case hp => (dsimp only; omega)) | (with_reducible apply bs_drew) | (with_reducible apply bs_drewN) | (with_reducible apply bs_new; (first | (with_reducible rfl) | (simp; done))) | (with_reducible apply bs_alloc) | (with_reducible apply bs_below; (case hb => with_reducible assumption); (case hB => first | omega | (simp; omega) | (simp; done)))))); (case e => rfl))
  · (repeat (first | (with_reducible assumption) | (with_reducible apply bs_same) | (with_reducible apply bs_far; case hp => (dsimp only; omega)) | (with_reducible apply bs_drew) | (with_reducible apply bs_drewN) | (with_reducible apply bs_new; (first | (with_reducible rfl) | (simp; done))) | (with_reducible apply bs_alloc) | (with_reducible apply bs_below; (case hb => with_reducible assumption); (case hB => first | omega | (simp; omega) | (simp; done)))))
  · exact R_put (Kd.R_mono (Kd.R_lower (R_base hR) (show w.heap.size + 2 ≤ w1_.heap.size by omega)) (fun k hk => by omega)) (by dsimp only; omega) _
  · (repeat (first | (with_reducible assumption) | with_reducible exact be_refl _ | (with_reducible refine be_set ?_ (by dsimp only; omega)) | (with_reducible apply be_drew) | (with_reducible apply be_drewN) | (with_reducible refine be_alloc ?_ (by first | omega | (simp; omega) | simp)) | (with_reducible refine be_call (by with_reducible assumption) (by first | omega | (simp; omega) | simp) ?_)))
  clear hR hb7 hc7 hf7 hz7 LV CV HB1 k1_0 k1_1 c1_0_0 c1_0_1 c1_0_2 c1_0_3 c1_0_4 c1_0_5 c1_0_6 c1_0_7 c1_1_0 c1_1_1 c1_1_2 c1_1_3 c1_1_4 c1_1_5 c1_1_6 c1_1_7 f1_0 f1_1 s1_0 s1_1
  intro w2 hP
  obtain ⟨k0, k1, kR, kB⟩ := hP
  have KR := hide kR
  have s0 := bs_lt k0
  have s1 := bs_lt k1
  obtain ⟨x0, x1, x2, x3, x4, x5, x6, x7, f0⟩ := cells8 k0
  obtain ⟨y0, y1, y2, y3, y4, y5, y6, y7, f1⟩ := cells8 k1
  clear kR
  go_wp2_with (first | (go_at_call 28; with_reducible refine (W1.out _).mono ?_; rintro e v ⟨rfl, hv⟩; subst v) | go_in)
  refine bodyPost_ret (results_ct rfl _ _ (w.heap.size + 1) 33 #[.int .i64 m, .int .i64 n1, .int .i64 n2, .int .i64 n3, .slice A0 n c0, .int .i64 (b - 48), .bool q, .bool r] (0, 0) _ rfl ?_ Try.underlying33 rfl (by kernel_rfl)) rfl ?_
  · (apply bs_eq; (case h => (repeat (first | (with_reducible assumption) | (with_reducible apply bs_same) | (with_reducible apply bs_far; case hp => (dsimp only; omega)) | (with_reducible apply bs_drew) | (with_reducible apply bs_drewN) | (with_reducible apply bs_new; (first | (with_reducible rfl) | (simp; done))) | (with_reducible apply bs_alloc) | (with_reducible apply bs_below; (case hb => with_reducible assumption); (case hB => first | omega | (simp; omega) | (simp; done)))))); (case e => rfl))
  · refine ⟨_, _, rfl, R_new_nil (base := w.heap.size + 2) ?_ (by omega), .nil _ _, by (repeat (first | (with_reducible assumption) | with_reducible exact be_refl _ | (with_reducible refine be_set ?_ (by dsimp only; omega)) | (with_reducible apply be_drew) | (with_reducible apply be_drewN) | (with_reducible refine be_alloc ?_ (by first | omega | (simp; omega) | simp)) | (with_reducible refine be_call (by with_reducible assumption) (by first | omega | (simp; omega) | simp) ?_)))⟩
    repeat (with_reducible refine R_put ?_ (by dsimp only; omega) _)
    exact KR.out
set_option maxHeartbeats 2000000 in
theorem csi_d1 (hs : PS w A n ps) (b : Int) (h4 : 48 ≤ b) (h5 : b ≤ 57) (h6 : -1 ≤ num) (h7 : num ≤ 65535) (h8 : 0 ≤ num) (h9 : 10 * num + (b - 48) ≤ 65535) : Calls Try.prog 21 #[.agg #[.int .i64 m, .int .i64 n1, .int .i64 n2, .int .i64 n3, .slice A n c, .int .i64 num, .bool q, .bool r], .int .u8 b] w (Out w P m n1 n2 n3 ps (10 * num + (b - 48)) q r []) := by
  have W1 := hide (within_val b 48 57 true (by simp; omega))
  have p1 : (num < 0) = False := eq_false (by omega)
  have p2 : (65535 < 10 * num + (b - 48)) = False := eq_false (by omega)
  have LV := fun W => hide (leave_no m n1 n2 n3 A n c num q r b (by omega) (by omega) (by omega) W)
  obtain ⟨hn, hl, hC⟩ := hs
  have CV := fun W hb => hide (clone_val W A n c ps hn (C_at hC hb) (by omega))
  have HN := hide hn
  have HL := hide hl
  clear hn hl hC
  go_enter Try.func21, Try.ntmps21
  go_upto_region 2 with (go_at_call 26; with_reducible refine (LV _).out.mono ?_; rintro e w9 ⟨rfl, hb9⟩; have hz9 := hb9.size; simp at hz9; obtain ⟨hc9, hf9⟩ := be_cells hb9; have z9 : w.heap.size < w9.heap.size := (by omega); have y9 : w.heap.size + 1 < w9.heap.size := (by omega))
  apply wp_letter2 (w.heap.size) w (w.heap.size) 33 (w.heap.size + 1) 33
  case h0 => (repeat (first | (with_reducible assumption) | (with_reducible apply bs_same) | (with_reducible apply bs_far; case hp => (dsimp only; omega)) | (with_reducible apply bs_drew) | (with_reducible apply bs_drewN) | (with_reducible apply bs_new; (first | (with_reducible rfl) | (simp; done))) | (with_reducible apply bs_alloc) | (with_reducible apply bs_below; (case hb => with_reducible assumption); (case hB => first | omega | (simp; omega) | (simp; done)))))
  case h1 => (repeat (first | (with_reducible assumption) | (with_reducible apply bs_same) | (with_reducible apply bs_far; case hp => (dsimp only; omega)) | (with_reducible apply bs_drew) | (with_reducible apply bs_drewN) | (with_reducible apply bs_new; (first | (with_reducible rfl) | (simp; done))) | (with_reducible apply bs_alloc) | (with_reducible apply bs_below; (case hb => with_reducible assumption); (case hB => first | omega | (simp; omega) | (simp; done)))))
  case hb => (repeat (first | (with_reducible assumption) | with_reducible exact be_refl _ | (with_reducible refine be_set ?_ (by dsimp only; omega)) | (with_reducible apply be_drew) | (with_reducible apply be_drewN) | (with_reducible refine be_alloc ?_ (by first | omega | (simp; omega) | simp)) | (with_reducible refine be_call (by with_reducible assumption) (by first | omega | (simp; omega) | simp) ?_)))
  intro w1_ k1_0 k1_1 HB1
  try simp only [List.setIfInBounds_toArray, List.set_cons_zero, List.set_cons_succ] at k1_0 k1_1
  obtain ⟨c1_0_0, c1_0_1, c1_0_2, c1_0_3, c1_0_4, c1_0_5, c1_0_6, c1_0_7, f1_0⟩ := cells8 k1_0
  have s1_0 := bs_lt k1_0
  obtain ⟨c1_1_0, c1_1_1, c1_1_2, c1_1_3, c1_1_4, c1_1_5, c1_1_6, c1_1_7, f1_1⟩ := cells8 k1_1
  have s1_1 := bs_lt k1_1
  go_upto_region 5 with (go_at_call 17; with_reducible refine (CV _ HB1).out.mono ?_; rintro e w7 ⟨v0, rfl, hR, hb7⟩; obtain ⟨A0, c0, hv0⟩ := Kd.R_slice hR; rw [HN.out] at hv0; subst hv0; obtain ⟨hc7, hf7⟩ := be_cells hb7; have hz7 := hb7.size)
  refine wp_letter (Pre w m n1 n2 n3 (.slice A0 n c0) num q r ps) ⟨?_, ?_, ?_, ?_⟩ ?_
  · (apply bs_eq; (case h => (repeat (first | (with_reducible assumption) | (with_reducible apply bs_same) | (with_reducible apply bs_far; case hp => (dsimp only; omega)) | (with_reducible apply bs_drew) | (with_reducible apply bs_drewN) | (with_reducible apply bs_new; (first | (with_reducible rfl) | (simp; done))) | (with_reducible apply bs_alloc) | (with_reducible apply bs_below; (case hb => with_reducible assumption); (case hB => first | omega | (simp; omega) | (simp; done)))))); (case e => rfl))
  · (repeat (first | (with_reducible assumption) | (with_reducible apply bs_same) | (with_reducible apply bs_far; case hp => (dsimp only; omega)) | (with_reducible apply bs_drew) | (with_reducible apply bs_drewN) | (with_reducible apply bs_new; (first | (with_reducible rfl) | (simp; done))) | (with_reducible apply bs_alloc) | (with_reducible apply bs_below; (case hb => with_reducible assumption); (case hB => first | omega | (simp; omega) | (simp; done)))))
  · exact R_put (Kd.R_mono (Kd.R_lower (R_base hR) (show w.heap.size + 2 ≤ w1_.heap.size by omega)) (fun k hk => by omega)) (by dsimp only; omega) _
  · (repeat (first | (with_reducible assumption) | with_reducible exact be_refl _ | (with_reducible refine be_set ?_ (by dsimp only; omega)) | (with_reducible apply be_drew) | (with_reducible apply be_drewN) | (with_reducible refine be_alloc ?_ (by first | omega | (simp; omega) | simp)) | (with_reducible refine be_call (by with_reducible assumption) (by first | omega | (simp; omega) | simp) ?_)))
  clear hR hb7 hc7 hf7 hz7 LV CV HB1 k1_0 k1_1 c1_0_0 c1_0_1 c1_0_2 c1_0_3 c1_0_4 c1_0_5 c1_0_6 c1_0_7 c1_1_0 c1_1_1 c1_1_2 c1_1_3 c1_1_4 c1_1_5 c1_1_6 c1_1_7 f1_0 f1_1 s1_0 s1_1
  intro w2 hP
  obtain ⟨k0, k1, kR, kB⟩ := hP
  have KR := hide kR
  have s0 := bs_lt k0
  have s1 := bs_lt k1
  obtain ⟨x0, x1, x2, x3, x4, x5, x6, x7, f0⟩ := cells8 k0
  obtain ⟨y0, y1, y2, y3, y4, y5, y6, y7, f1⟩ := cells8 k1
  clear kR
  go_wp2_with (first | (go_at_call 28; with_reducible refine (W1.out _).mono ?_; rintro e v ⟨rfl, hv⟩; subst v) | go_in)
  refine bodyPost_ret (results_ct rfl _ _ (w.heap.size + 1) 33 #[.int .i64 m, .int .i64 n1, .int .i64 n2, .int .i64 n3, .slice A0 n c0, .int .i64 (10 * num + (b - 48)), .bool q, .bool r] (0, 0) _ rfl ?_ Try.underlying33 rfl (by kernel_rfl)) rfl ?_
  · (apply bs_eq; (case h => (repeat (first | (with_reducible assumption) | (with_reducible apply bs_same) | (with_reducible apply bs_far; case hp => (dsimp only; omega)) | (with_reducible apply bs_drew) | (with_reducible apply bs_drewN) | (with_reducible apply bs_new; (first | (with_reducible rfl) | (simp; done))) | (with_reducible apply bs_alloc) | (with_reducible apply bs_below; (case hb => with_reducible assumption); (case hB => first | omega | (simp; omega) | (simp; done)))))); (case e => rfl))
  · refine ⟨_, _, rfl, R_new_nil (base := w.heap.size + 2) ?_ (by omega), .nil _ _, by (repeat (first | (with_reducible assumption) | with_reducible exact be_refl _ | (with_reducible refine be_set ?_ (by dsimp only; omega)) | (with_reducible apply be_drew) | (with_reducible apply be_drewN) | (with_reducible refine be_alloc ?_ (by first | omega | (simp; omega) | simp)) | (with_reducible refine be_call (by with_reducible assumption) (by first | omega | (simp; omega) | simp) ?_)))⟩
    repeat (with_reducible refine R_put ?_ (by dsimp only; omega) _)
    exact KR.out
set_option maxHeartbeats 2000000 in
theorem csi_d2 (hs : PS w A n ps) (b : Int) (h4 : 48 ≤ b) (h5 : b ≤ 57) (h6 : -1 ≤ num) (h7 : num ≤ 65535) (h8 : 0 ≤ num) (h9 : 65535 < 10 * num + (b - 48)) : Calls Try.prog 21 #[.agg #[.int .i64 m, .int .i64 n1, .int .i64 n2, .int .i64 n3, .slice A n c, .int .i64 num, .bool q, .bool r], .int .u8 b] w (Out w P m n1 n2 n3 ps (65535) q r []) := by
  have W1 := hide (within_val b 48 57 true (by simp; omega))
  have p1 : (num < 0) = False := eq_false (by omega)
  have p2 : (65535 < 10 * num + (b - 48)) = True := eq_true h9
  have LV := fun W => hide (leave_no m n1 n2 n3 A n c num q r b (by omega) (by omega) (by omega) W)
  obtain ⟨hn, hl, hC⟩ := hs
  have CV := fun W hb => hide (clone_val W A n c ps hn (C_at hC hb) (by omega))
  have HN := hide hn
  have HL := hide hl
  clear hn hl hC
  go_enter Try.func21, Try.ntmps21
  go_upto_region 2 with (go_at_call 26; with_reducible refine (LV _).out.mono ?_; rintro e w9 ⟨rfl, hb9⟩; have hz9 := hb9.size; simp at hz9; obtain ⟨hc9, hf9⟩ := be_cells hb9; have z9 : w.heap.size < w9.heap.size := (by omega); have y9 : w.heap.size + 1 < w9.heap.size := (by omega))
  apply wp_letter2 (w.heap.size) w (w.heap.size) 33 (w.heap.size + 1) 33
  case h0 => (repeat (first | (with_reducible assumption) | (with_reducible apply bs_same) | (with_reducible apply bs_far; case hp => (dsimp only; omega)) | (with_reducible apply bs_drew) | (with_reducible apply bs_drewN) | (with_reducible apply bs_new; (first | (with_reducible rfl) | (simp; done))) | (with_reducible apply bs_alloc) | (with_reducible apply bs_below; (case hb => with_reducible assumption); (case hB => first | omega | (simp; omega) | (simp; done)))))
  case h1 => (repeat (first | (with_reducible assumption) | (with_reducible apply bs_same) | (with_reducible apply bs_far; case hp => (dsimp only; omega)) | (with_reducible apply bs_drew) | (with_reducible apply bs_drewN) | (with_reducible apply bs_new; (first | (with_reducible rfl) | (simp; done))) | (with_reducible apply bs_alloc) | (with_reducible apply bs_below; (case hb => with_reducible assumption); (case hB => first | omega | (simp; omega) | (simp; done)))))
  case hb => (repeat (first | (with_reducible assumption) | with_reducible exact be_refl _ | (with_reducible refine be_set ?_ (by dsimp only; omega)) | (with_reducible apply be_drew) | (with_reducible apply be_drewN) | (with_reducible refine be_alloc ?_ (by first | omega | (simp; omega) | simp)) | (with_reducible refine be_call (by with_reducible assumption) (by first | omega | (simp; omega) | simp) ?_)))
  intro w1_ k1_0 k1_1 HB1
  try simp only [List.setIfInBounds_toArray, List.set_cons_zero, List.set_cons_succ] at k1_0 k1_1
  obtain ⟨c1_0_0, c1_0_1, c1_0_2, c1_0_3, c1_0_4, c1_0_5, c1_0_6, c1_0_7, f1_0⟩ := cells8 k1_0
  have s1_0 := bs_lt k1_0
  obtain ⟨c1_1_0, c1_1_1, c1_1_2, c1_1_3, c1_1_4, c1_1_5, c1_1_6, c1_1_7, f1_1⟩ := cells8 k1_1
  have s1_1 := bs_lt k1_1
  go_upto_region 5 with (go_at_call 17; with_reducible refine (CV _ HB1).out.mono ?_; rintro e w7 ⟨v0, rfl, hR, hb7⟩; obtain ⟨A0, c0, hv0⟩ := Kd.R_slice hR; rw [HN.out] at hv0; subst hv0; obtain ⟨hc7, hf7⟩ := be_cells hb7; have hz7 := hb7.size)
  refine wp_letter (Pre w m n1 n2 n3 (.slice A0 n c0) num q r ps) ⟨?_, ?_, ?_, ?_⟩ ?_
  · (apply bs_eq; (case h => (repeat (first | (with_reducible assumption) | (with_reducible apply bs_same) | (with_reducible apply bs_far; case hp => (dsimp only; omega)) | (with_reducible apply bs_drew) | (with_reducible apply bs_drewN) | (with_reducible apply bs_new; (first | (with_reducible rfl) | (simp; done))) | (with_reducible apply bs_alloc) | (with_reducible apply bs_below; (case hb => with_reducible assumption); (case hB => first | omega | (simp; omega) | (simp; done)))))); (case e => rfl))
  · (repeat (first | (with_reducible assumption) | (with_reducible apply bs_same) | (with_reducible apply bs_far; case hp => (dsimp only; omega)) | (with_reducible apply bs_drew) | (with_reducible apply bs_drewN) | (with_reducible apply bs_new; (first | (with_reducible rfl) | (simp; done))) | (with_reducible apply bs_alloc) | (with_reducible apply bs_below; (case hb => with_reducible assumption); (case hB => first | omega | (simp; omega) | (simp; done)))))
  · exact R_put (Kd.R_mono (Kd.R_lower (R_base hR) (show w.heap.size + 2 ≤ w1_.heap.size by omega)) (fun k hk => by omega)) (by dsimp only; omega) _
  · (repeat (first | (with_reducible assumption) | with_reducible exact be_refl _ | (with_reducible refine be_set ?_ (by dsimp only; omega)) | (with_reducible apply be_drew) | (with_reducible apply be_drewN) | (with_reducible refine be_alloc ?_ (by first | omega | (simp; omega) | simp)) | (with_reducible refine be_call (by with_reducible assumption) (by first | omega | (simp; omega) | simp) ?_)))
  clear hR hb7 hc7 hf7 hz7 LV CV HB1 k1_0 k1_1 c1_0_0 c1_0_1 c1_0_2 c1_0_3 c1_0_4 c1_0_5 c1_0_6 c1_0_7 c1_1_0 c1_1_1 c1_1_2 c1_1_3 c1_1_4 c1_1_5 c1_1_6 c1_1_7 f1_0 f1_1 s1_0 s1_1
  intro w2 hP
  obtain ⟨k0, k1, kR, kB⟩ := hP
  have KR := hide kR
  have s0 := bs_lt k0
  have s1 := bs_lt k1
  obtain ⟨x0, x1, x2, x3, x4, x5, x6, x7, f0⟩ := cells8 k0
  obtain ⟨y0, y1, y2, y3, y4, y5, y6, y7, f1⟩ := cells8 k1
  clear kR
  go_wp2_with (first | (go_at_call 28; with_reducible refine (W1.out _).mono ?_; rintro e v ⟨rfl, hv⟩; subst v) | go_in)
  refine bodyPost_ret (results_ct rfl _ _ (w.heap.size + 1) 33 #[.int .i64 m, .int .i64 n1, .int .i64 n2, .int .i64 n3, .slice A0 n c0, .int .i64 (65535), .bool q, .bool r] (0, 0) _ rfl ?_ Try.underlying33 rfl (by kernel_rfl)) rfl ?_
  · (apply bs_eq; (case h => (repeat (first | (with_reducible assumption) | (with_reducible apply bs_same) | (with_reducible apply bs_far; case hp => (dsimp only; omega)) | (with_reducible apply bs_drew) | (with_reducible apply bs_drewN) | (with_reducible apply bs_new; (first | (with_reducible rfl) | (simp; done))) | (with_reducible apply bs_alloc) | (with_reducible apply bs_below; (case hb => with_reducible assumption); (case hB => first | omega | (simp; omega) | (simp; done)))))); (case e => rfl))
  · refine ⟨_, _, rfl, R_new_nil (base := w.heap.size + 2) ?_ (by omega), .nil _ _, by (repeat (first | (with_reducible assumption) | with_reducible exact be_refl _ | (with_reducible refine be_set ?_ (by dsimp only; omega)) | (with_reducible apply be_drew) | (with_reducible apply be_drewN) | (with_reducible refine be_alloc ?_ (by first | omega | (simp; omega) | simp)) | (with_reducible refine be_call (by with_reducible assumption) (by first | omega | (simp; omega) | simp) ?_)))⟩
    repeat (with_reducible refine R_put ?_ (by dsimp only; omega) _)
    exact KR.out
set_option maxHeartbeats 2000000 in
theorem csi_q0 (hs : PS w A n ps) (h4 : ps.length ≠ 0) : Calls Try.prog 21 #[.agg #[.int .i64 m, .int .i64 n1, .int .i64 n2, .int .i64 n3, .slice A n c, .int .i64 num, .bool q, .bool r], .int .u8 63] w (Out w P m n1 n2 n3 ps (num) q true []) := by
  have W1 := hide (within_val 63 48 57 false (by decide))
  have W2 := hide (within_val 63 32 63 true (by decide))
  have qn : ((n : Int) == 0) = false := by have := hs.1; simp; omega
  have qn2 : (n == 0) = false := by have := hs.1; simp; omega
  have LV := fun W => hide (leave_no m n1 n2 n3 A n c num q r 63 (by omega) (by omega) (by omega) W)
  obtain ⟨hn, hl, hC⟩ := hs
  have CV := fun W hb => hide (clone_val W A n c ps hn (C_at hC hb) (by omega))
  have HN := hide hn
  have HL := hide hl
  clear hn hl hC
  go_enter Try.func21, Try.ntmps21
  go_upto_region 2 with (go_at_call 26; with_reducible refine (LV _).out.mono ?_; rintro e w9 ⟨rfl, hb9⟩; have hz9 := hb9.size; simp at hz9; obtain ⟨hc9, hf9⟩ := be_cells hb9; have z9 : w.heap.size < w9.heap.size := (by omega); have y9 : w.heap.size + 1 < w9.heap.size := (by omega))
  apply wp_letter2 (w.heap.size) w (w.heap.size) 33 (w.heap.size + 1) 33
  case h0 => (repeat (first | (with_reducible assumption) | (with_reducible apply bs_same) | (with_reducible apply bs_far; case hp => (dsimp only; omega)) | (with_reducible apply bs_drew) | (with_reducible apply bs_drewN) | (with_reducible apply bs_new; (first | (with_reducible rfl) | (simp; done))) | (with_reducible apply bs_alloc) | (with_reducible apply bs_below; (case hb => with_reducible assumption); (case hB => first | omega | (simp; omega) | (simp; done)))))
  case h1 => (repeat (first | (with_reducible assumption) | (with_reducible apply bs_same) | (with_reducible apply bs_far; case hp => (dsimp only; omega)) | (with_reducible apply bs_drew) | (with_reducible apply bs_drewN) | (with_reducible apply bs_new; (first | (with_reducible rfl) | (simp; done))) | (with_reducible apply bs_alloc) | (with_reducible apply bs_below; (case hb => with_reducible assumption); (case hB => first | omega | (simp; omega) | (simp; done)))))
  case hb => (repeat (first | (with_reducible assumption) | with_reducible exact be_refl _ | (with_reducible refine be_set ?_ (by dsimp only; omega)) | (with_reducible apply be_drew) | (with_reducible apply be_drewN) | (with_reducible refine be_alloc ?_ (by first | omega | (simp; omega) | simp)) | (with_reducible refine be_call (by with_reducible assumption) (by first | omega | (simp; omega) | simp) ?_)))
  intro w1_ k1_0 k1_1 HB1
  try simp only [List.setIfInBounds_toArray, List.set_cons_zero, List.set_cons_succ] at k1_0 k1_1
  obtain ⟨c1_0_0, c1_0_1, c1_0_2, c1_0_3, c1_0_4, c1_0_5, c1_0_6, c1_0_7, f1_0⟩ := cells8 k1_0
  have s1_0 := bs_lt k1_0
  obtain ⟨c1_1_0, c1_1_1, c1_1_2, c1_1_3, c1_1_4, c1_1_5, c1_1_6, c1_1_7, f1_1⟩ := cells8 k1_1
  have s1_1 := bs_lt k1_1
  go_upto_region 5 with (go_at_call 17; with_reducible refine (CV _ HB1).out.mono ?_; rintro e w7 ⟨v0, rfl, hR, hb7⟩; obtain ⟨A0, c0, hv0⟩ := Kd.R_slice hR; rw [HN.out] at hv0; subst hv0; obtain ⟨hc7, hf7⟩ := be_cells hb7; have hz7 := hb7.size)
  refine wp_letter (Pre w m n1 n2 n3 (.slice A0 n c0) num q r ps) ⟨?_, ?_, ?_, ?_⟩ ?_
  · (apply bs_eq; (case h => (repeat (first | (with_reducible assumption) | (with_reducible apply bs_same) | (with_reducible apply bs_far; case hp => (dsimp only; omega)) | (with_reducible apply bs_drew) | (with_reducible apply bs_drewN) | (with_reducible apply bs_new; (first | (with_reducible rfl) | (simp; done))) | (with_reducible apply bs_alloc) | (with_reducible apply bs_below; (case hb => with_reducible assumption); (case hB => first | omega | (simp; omega) | (simp; done)))))); (case e => rfl))
  · (repeat (first | (with_reducible assumption) | (with_reducible apply bs_same) | (with_reducible apply bs_far; case hp => (dsimp only; omega)) | (with_reducible apply bs_drew) | (with_reducible apply bs_drewN) | (with_reducible apply bs_new; (first | (with_reducible rfl) | (simp; done))) | (with_reducible apply bs_alloc) | (with_reducible apply bs_below; (case hb => with_reducible assumption); (case hB => first | omega | (simp; omega) | (simp; done)))))
  · exact R_put (Kd.R_mono (Kd.R_lower (R_base hR) (show w.heap.size + 2 ≤ w1_.heap.size by omega)) (fun k hk => by omega)) (by dsimp only; omega) _
  · (repeat (first | (with_reducible assumption) | with_reducible exact be_refl _ | (with_reducible refine be_set ?_ (by dsimp only; omega)) | (with_reducible apply be_drew) | (with_reducible apply be_drewN) | (with_reducible refine be_alloc ?_ (by first | omega | (simp; omega) | simp)) | (with_reducible refine be_call (by with_reducible assumption) (by first | omega | (simp; omega) | simp) ?_)))
  clear hR hb7 hc7 hf7 hz7 LV CV HB1 k1_0 k1_1 c1_0_0 c1_0_1 c1_0_2 c1_0_3 c1_0_4 c1_0_5 c1_0_6 c1_0_7 c1_1_0 c1_1_1 c1_1_2 c1_1_3 c1_1_4 c1_1_5 c1_1_6 c1_1_7 f1_0 f1_1 s1_0 s1_1
  intro w2 hP
  obtain ⟨k0, k1, kR, kB⟩ := hP
  have KR := hide kR
  have s0 := bs_lt k0
  have s1 := bs_lt k1
  obtain ⟨x0, x1, x2, x3, x4, x5, x6, x7, f0⟩ := cells8 k0
  obtain ⟨y0, y1, y2, y3, y4, y5, y6, y7, f1⟩ := cells8 k1
  clear kR
  go_wp2_with (first | (go_at_call 28; with_reducible refine (W1.out _).mono ?_; rintro e v ⟨rfl, hv⟩; subst v) | (go_at_call 28; with_reducible refine (W2.out _).mono ?_; rintro e v ⟨rfl, hv⟩; subst v) | go_in)
  refine bodyPost_ret (results_ct rfl _ _ (w.heap.size + 1) 33 #[.int .i64 m, .int .i64 n1, .int .i64 n2, .int .i64 n3, .slice A0 n c0, .int .i64 num, .bool q, .bool true] (0, 0) _ rfl ?_ Try.underlying33 rfl (by kernel_rfl)) rfl ?_
  · (apply bs_eq; (case h => (repeat (first | (with_reducible assumption) | (with_reducible apply bs_same) | (with_reducible apply bs_far; case hp => (dsimp only; omega)) | (with_reducible apply bs_drew) | (with_reducible apply bs_drewN) | (with_reducible apply bs_new; (first | (with_reducible rfl) | (simp; done))) | (with_reducible apply bs_alloc) | (with_reducible apply bs_below; (case hb => with_reducible assumption); (case hB => first | omega | (simp; omega) | (simp; done)))))); (case e => rfl))
  · refine ⟨_, _, rfl, R_new_nil (base := w.heap.size + 2) ?_ (by omega), .nil _ _, by (repeat (first | (with_reducible assumption) | with_reducible exact be_refl _ | (with_reducible refine be_set ?_ (by dsimp only; omega)) | (with_reducible apply be_drew) | (with_reducible apply be_drewN) | (with_reducible refine be_alloc ?_ (by first | omega | (simp; omega) | simp)) | (with_reducible refine be_call (by with_reducible assumption) (by first | omega | (simp; omega) | simp) ?_)))⟩
    repeat (with_reducible refine R_put ?_ (by dsimp only; omega) _)
    exact KR.out
set_option maxHeartbeats 2000000 in
theorem csi_q1 (hs : PS w A n ps) (h4 : ps.length = 0) (h5 : num ≠ -1) : Calls Try.prog 21 #[.agg #[.int .i64 m, .int .i64 n1, .int .i64 n2, .int .i64 n3, .slice A n c, .int .i64 num, .bool q, .bool r], .int .u8 63] w (Out w P m n1 n2 n3 ps (num) q true []) := by
  have W1 := hide (within_val 63 48 57 false (by decide))
  have W2 := hide (within_val 63 32 63 true (by decide))
  have qn : ((n : Int) == 0) = true := by have := hs.1; simp; omega
  have qn2 : (n == 0) = true := by have := hs.1; simp; omega
  have qm : (num == -1) = false := by simp; omega
  have LV := fun W => hide (leave_no m n1 n2 n3 A n c num q r 63 (by omega) (by omega) (by omega) W)
  obtain ⟨hn, hl, hC⟩ := hs
  have CV := fun W hb => hide (clone_val W A n c ps hn (C_at hC hb) (by omega))
  have HN := hide hn
  have HL := hide hl
  clear hn hl hC
  go_enter Try.func21, Try.ntmps21
  go_upto_region 2 with (go_at_call 26; with_reducible refine (LV _).out.mono ?_; rintro e w9 ⟨rfl, hb9⟩; have hz9 := hb9.size; simp at hz9; obtain ⟨hc9, hf9⟩ := be_cells hb9; have z9 : w.heap.size < w9.heap.size := (by omega); have y9 : w.heap.size + 1 < w9.heap.size := (by omega))
  apply wp_letter2 (w.heap.size) w (w.heap.size) 33 (w.heap.size + 1) 33
  case h0 => (repeat (first | (with_reducible assumption) | (with_reducible apply bs_same) | (with_reducible apply bs_far; case hp => (dsimp only; omega)) | (with_reducible apply bs_drew) | (with_reducible apply bs_drewN) | (with_reducible apply bs_new; (first | (with_reducible rfl) | (simp; done))) | (with_reducible apply bs_alloc) | (with_reducible apply bs_below; (case hb => with_reducible assumption); (case hB => first | omega | (simp; omega) | (simp; done)))))
  case h1 => (repeat (first | (with_reducible assumption) | (with_reducible apply bs_same) | (with_reducible apply bs_far; case hp => (dsimp only; omega)) | (with_reducible apply bs_drew) | (with_reducible apply bs_drewN) | (with_reducible apply bs_new; (first | (with_reducible rfl) | (simp; done))) | (with_reducible apply bs_alloc) | (with_reducible apply bs_below; (case hb => with_reducible assumption); (case hB => first | omega | (simp; omega) | (simp; done)))))
  case hb => (repeat (first | (with_reducible assumption) | with_reducible exact be_refl _ | (with_reducible refine be_set ?_ (by dsimp only; omega)) | (with_reducible apply be_drew) | (with_reducible apply be_drewN) | (with_reducible refine be_alloc ?_ (by first | omega | (simp; omega) | simp)) | (with_reducible refine be_call (by with_reducible assumption) (by first | omega | (simp; omega) | simp) ?_)))
  intro w1_ k1_0 k1_1 HB1
  try simp only [List.setIfInBounds_toArray, List.set_cons_zero, List.set_cons_succ] at k1_0 k1_1
  obtain ⟨c1_0_0, c1_0_1, c1_0_2, c1_0_3, c1_0_4, c1_0_5, c1_0_6, c1_0_7, f1_0⟩ := cells8 k1_0
  have s1_0 := bs_lt k1_0
  obtain ⟨c1_1_0, c1_1_1, c1_1_2, c1_1_3, c1_1_4, c1_1_5, c1_1_6, c1_1_7, f1_1⟩ := cells8 k1_1
  have s1_1 := bs_lt k1_1
  go_upto_region 5 with (go_at_call 17; with_reducible refine (CV _ HB1).out.mono ?_; rintro e w7 ⟨v0, rfl, hR, hb7⟩; obtain ⟨A0, c0, hv0⟩ := Kd.R_slice hR; rw [HN.out] at hv0; subst hv0; obtain ⟨hc7, hf7⟩ := be_cells hb7; have hz7 := hb7.size)
  refine wp_letter (Pre w m n1 n2 n3 (.slice A0 n c0) num q r ps) ⟨?_, ?_, ?_, ?_⟩ ?_
  · (apply bs_eq; (case h => (repeat (first | (with_reducible assumption) | (with_reducible apply bs_same) | (with_reducible apply bs_far; case hp => (dsimp only; omega)) | (with_reducible apply bs_drew) | (with_reducible apply bs_drewN) | (with_reducible apply bs_new; (first | (with_reducible rfl) | (simp; done))) | (with_reducible apply bs_alloc) | (with_reducible apply bs_below; (case hb => with_reducible assumption); (case hB => first | omega | (simp; omega) | (simp; done)))))); (case e => rfl))
  · (repeat (first | (with_reducible assumption) | (with_reducible apply bs_same) | (with_reducible apply bs_far; case hp => (dsimp only; omega)) | (with_reducible apply bs_drew) | (with_reducible apply bs_drewN) | (with_reducible apply bs_new; (first | (with_reducible rfl) | (simp; done))) | (with_reducible apply bs_alloc) | (with_reducible apply bs_below; (case hb => with_reducible assumption); (case hB => first | omega | (simp; omega) | (simp; done)))))
  · exact R_put (Kd.R_mono (Kd.R_lower (R_base hR) (show w.heap.size + 2 ≤ w1_.heap.size by omega)) (fun k hk => by omega)) (by dsimp only; omega) _
  · (repeat (first | (with_reducible assumption) | with_reducible exact be_refl _ | (with_reducible refine be_set ?_ (by dsimp only; omega)) | (with_reducible apply be_drew) | (with_reducible apply be_drewN) | (with_reducible refine be_alloc ?_ (by first | omega | (simp; omega) | simp)) | (with_reducible refine be_call (by with_reducible assumption) (by first | omega | (simp; omega) | simp) ?_)))
  clear hR hb7 hc7 hf7 hz7 LV CV HB1 k1_0 k1_1 c1_0_0 c1_0_1 c1_0_2 c1_0_3 c1_0_4 c1_0_5 c1_0_6 c1_0_7 c1_1_0 c1_1_1 c1_1_2 c1_1_3 c1_1_4 c1_1_5 c1_1_6 c1_1_7 f1_0 f1_1 s1_0 s1_1
  intro w2 hP
  obtain ⟨k0, k1, kR, kB⟩ := hP
  have KR := hide kR
  have s0 := bs_lt k0
  have s1 := bs_lt k1
  obtain ⟨x0, x1, x2, x3, x4, x5, x6, x7, f0⟩ := cells8 k0
  obtain ⟨y0, y1, y2, y3, y4, y5, y6, y7, f1⟩ := cells8 k1
  clear kR
  go_wp2_with (first | (go_at_call 28; with_reducible refine (W1.out _).mono ?_; rintro e v ⟨rfl, hv⟩; subst v) | (go_at_call 28; with_reducible refine (W2.out _).mono ?_; rintro e v ⟨rfl, hv⟩; subst v) | go_in)
  refine bodyPost_ret (results_ct rfl _ _ (w.heap.size + 1) 33 #[.int .i64 m, .int .i64 n1, .int .i64 n2, .int .i64 n3, .slice A0 n c0, .int .i64 num, .bool q, .bool true] (0, 0) _ rfl ?_ Try.underlying33 rfl (by kernel_rfl)) rfl ?_
  · (apply bs_eq; (case h => (repeat (first | (with_reducible assumption) | (with_reducible apply bs_same) | (with_reducible apply bs_far; case hp => (dsimp only; omega)) | (with_reducible apply bs_drew) | (with_reducible apply bs_drewN) | (with_reducible apply bs_new; (first | (with_reducible rfl) | (simp; done))) | (with_reducible apply bs_alloc) | (with_reducible apply bs_below; (case hb => with_reducible assumption); (case hB => first | omega | (simp; omega) | (simp; done)))))); (case e => rfl))
  · refine ⟨_, _, rfl, R_new_nil (base := w.heap.size + 2) ?_ (by omega), .nil _ _, by (repeat (first | (with_reducible assumption) | with_reducible exact be_refl _ | (with_reducible refine be_set ?_ (by dsimp only; omega)) | (with_reducible apply be_drew) | (with_reducible apply be_drewN) | (with_reducible refine be_alloc ?_ (by first | omega | (simp; omega) | simp)) | (with_reducible refine be_call (by with_reducible assumption) (by first | omega | (simp; omega) | simp) ?_)))⟩
    repeat (with_reducible refine R_put ?_ (by dsimp only; omega) _)
    exact KR.out
end
end Go.Proofs.Ytiahfgcfgpakiaa.EscaVal


