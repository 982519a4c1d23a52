/- What esca.last and esca.csi hand back at a last byte, and csi at any: contracts, each for every escape that can be. -/
import Derived.Test.YtiahfgcfgpakiaaEscaLast2
import Derived.Test.YtiahfgcfgpakiaaEscaGround
namespace Go.Proofs.Ytiahfgcfgpakiaa.EscaVal
open Go Go.RowKit Go.Proofs.YtiahfgcfgpakiaaKit Go.Proofs.Ytiahfgcfgpakiaa.Mem Go.Proofs.YtiahfgcfgpakiaaW.PrintWords Go.Proofs.YtiahfgcfgpakiaaW.PrintLast Go.Proofs.Ytiahfgcfgpakiaa.Split
set_option linter.unusedVariables false
set_option linter.unusedSimpArgs false
section
variable (m n1 n2 n3 : Int) (A : Option Addr) (n c : Nat) (num : Int) (q r : Bool) (w : World) (P : Nat → Prop) (ps : List Int)
theorem last_val (b : Int) (hs : PS w A n ps) : Calls Try.prog 31 #[.agg #[.int .i64 m, .int .i64 n1, .int .i64 n2, .int .i64 n3, .slice A n c, .int .i64 num, .bool q, .bool r], .int .u8 b] w fun e w' => ∃ v8 : Value, e = .returned (.tuple #[.agg #[.int .i64 0, .int .i64 n1, .int .i64 n2, .int .i64 n3, .slice none 0 0, .int .i64 0, .bool false, .bool false], v8]) ∧ ActR w' w.heap.size v8 (lastA ps num q r b) ∧ Below w.heap.size w w' := by
  by_cases h1 : num = -1
  · by_cases h2 : ps.length = 0
    · cases q <;> cases r
      · exact last_n_ff _ _ _ _ _ _ _ _ _ _ b hs h1 h2
      · exact last_n_ft _ _ _ _ _ _ _ _ _ _ b hs h1 h2
      · exact last_n_tf _ _ _ _ _ _ _ _ _ _ b hs h1 h2
      · exact last_n_tt _ _ _ _ _ _ _ _ _ _ b hs h1 h2
    · cases q <;> cases r
      · exact last_z_ff _ _ _ _ _ _ _ _ _ _ b hs h1 h2
      · exact last_z_ft _ _ _ _ _ _ _ _ _ _ b hs h1 h2
      · exact last_z_tf _ _ _ _ _ _ _ _ _ _ b hs h1 h2
      · exact last_z_tt _ _ _ _ _ _ _ _ _ _ b hs h1 h2
  · cases q <;> cases r
    · exact last_y_ff _ _ _ _ _ _ _ _ _ _ b hs h1
    · exact last_y_ft _ _ _ _ _ _ _ _ _ _ b hs h1
    · exact last_y_tf _ _ _ _ _ _ _ _ _ _ b hs h1
    · exact last_y_tt _ _ _ _ _ _ _ _ _ _ b hs h1
set_option maxHeartbeats 4000000 in
theorem csi_fin (hs : PS w A n ps) (b : Int) (h4 : 64 ≤ b) (h5 : b ≤ 126) : Calls Try.prog 21 #[.agg #[.int .i64 m, .int .i64 n1, .int .i64 n2, .int .i64 n3, .slice A n c, .int .i64 num, .bool q, .bool r], .int .u8 b] w (Out w P 0 n1 n2 n3 [] 0 false false (lastA ps num q r b)) := by
  have e59 : (b == 59) = false := by simp; omega
  have e63 : (b == 63) = false := by simp; omega
  have W1 := hide (within_val b 48 57 false (by simp; omega))
  have W2 := hide (within_val b 32 63 false (by simp; omega))
  have W3 := hide (within_val b 64 126 true (by simp; omega))
  have LV := fun W => hide (leave_no m n1 n2 n3 A n c num q r b (by omega) (by omega) (by omega) W)
  obtain ⟨hn, hl, hC⟩ := hs
  have CV := fun W hb => hide (clone_val W A n c ps hn (C_at hC hb) (by omega))
  have HN := hide hn
  have HL := hide hl
  clear hn hl hC
  go_enter Try.func21, Try.ntmps21
  go_upto_region 2 with (go_at_call 26; with_reducible refine (LV _).out.mono ?_; rintro e w9 ⟨rfl, hb9⟩; have hz9 := hb9.size; simp at hz9; obtain ⟨hc9, hf9⟩ := be_cells hb9; have z9 : w.heap.size < w9.heap.size := (by omega); have y9 : w.heap.size + 1 < w9.heap.size := (by omega))
  apply wp_letter2 (w.heap.size) w (w.heap.size) 33 (w.heap.size + 1) 33
  case h0 => (repeat (first | (with_reducible assumption) | (with_reducible apply bs_same) | (with_reducible apply bs_far; case hp => (dsimp only; omega)) | (with_reducible apply bs_drew) | (with_reducible apply bs_drewN) | (with_reducible apply bs_new; (first | (with_reducible rfl) | (simp; done))) | (with_reducible apply bs_alloc) | (with_reducible apply bs_below; (case hb => with_reducible assumption); (case hB => first | omega | (simp; omega) | (simp; done)))))
  case h1 => (repeat (first | (with_reducible assumption) | (with_reducible apply bs_same) | (with_reducible apply bs_far; case hp => (dsimp only; omega)) | (with_reducible apply bs_drew) | (with_reducible apply bs_drewN) | (with_reducible apply bs_new; (first | (with_reducible rfl) | (simp; done))) | (with_reducible apply bs_alloc) | (with_reducible apply bs_below; (case hb => with_reducible assumption); (case hB => first | omega | (simp; omega) | (simp; done)))))
  case hb => (repeat (first | (with_reducible assumption) | with_reducible exact be_refl _ | (with_reducible refine be_set ?_ (by dsimp only; omega)) | (with_reducible apply be_drew) | (with_reducible apply be_drewN) | (with_reducible refine be_alloc ?_ (by first | omega | (simp; omega) | simp)) | (with_reducible refine be_call (by with_reducible assumption) (by first | omega | (simp; omega) | simp) ?_)))
  intro w1_ k1_0 k1_1 HB1
  try simp only [List.setIfInBounds_toArray, List.set_cons_zero, List.set_cons_succ] at k1_0 k1_1
  obtain ⟨c1_0_0, c1_0_1, c1_0_2, c1_0_3, c1_0_4, c1_0_5, c1_0_6, c1_0_7, f1_0⟩ := cells8 k1_0
  have s1_0 := bs_lt k1_0
  obtain ⟨c1_1_0, c1_1_1, c1_1_2, c1_1_3, c1_1_4, c1_1_5, c1_1_6, c1_1_7, f1_1⟩ := cells8 k1_1
  have s1_1 := bs_lt k1_1
  go_upto_region 5 with (go_at_call 17; with_reducible refine (CV _ HB1).out.mono ?_; rintro e w7 ⟨v0, rfl, hR, hb7⟩; obtain ⟨A0, c0, hv0⟩ := Kd.R_slice hR; rw [HN.out] at hv0; subst hv0; obtain ⟨hc7, hf7⟩ := be_cells hb7; have hz7 := hb7.size)
  refine wp_letter (Pre w m n1 n2 n3 (.slice A0 n c0) num q r ps) ⟨?_, ?_, ?_, ?_⟩ ?_
  · (apply bs_eq; (case h => (repeat (first | (with_reducible assumption) | (with_reducible apply bs_same) | (with_reducible apply bs_far; case hp => (dsimp only; omega)) | (with_reducible apply bs_drew) | (with_reducible apply bs_drewN) | (with_reducible apply bs_new; (first | (with_reducible rfl) | (simp; done))) | (with_reducible apply bs_alloc) | (with_reducible apply bs_below; (case hb => with_reducible assumption); (case hB => first | omega | (simp; omega) | (simp; done)))))); (case e => rfl))
  · (repeat (first | (with_reducible assumption) | (with_reducible apply bs_same) | (with_reducible apply bs_far; case hp => (dsimp only; omega)) | (with_reducible apply bs_drew) | (with_reducible apply bs_drewN) | (with_reducible apply bs_new; (first | (with_reducible rfl) | (simp; done))) | (with_reducible apply bs_alloc) | (with_reducible apply bs_below; (case hb => with_reducible assumption); (case hB => first | omega | (simp; omega) | (simp; done)))))
  · exact R_put (Kd.R_mono (Kd.R_lower (R_base hR) (show w.heap.size + 2 ≤ w1_.heap.size by omega)) (fun k hk => by omega)) (by dsimp only; omega) _
  · (repeat (first | (with_reducible assumption) | with_reducible exact be_refl _ | (with_reducible refine be_set ?_ (by dsimp only; omega)) | (with_reducible apply be_drew) | (with_reducible apply be_drewN) | (with_reducible refine be_alloc ?_ (by first | omega | (simp; omega) | simp)) | (with_reducible refine be_call (by with_reducible assumption) (by first | omega | (simp; omega) | simp) ?_)))
  clear hR hb7 hc7 hf7 hz7 LV CV HB1 k1_0 k1_1 c1_0_0 c1_0_1 c1_0_2 c1_0_3 c1_0_4 c1_0_5 c1_0_6 c1_0_7 c1_1_0 c1_1_1 c1_1_2 c1_1_3 c1_1_4 c1_1_5 c1_1_6 c1_1_7 f1_0 f1_1 s1_0 s1_1
  intro w2 hP
  obtain ⟨k0, k1, kR, kB⟩ := hP
  have KR := hide kR
  have s0 := bs_lt k0
  have s1 := bs_lt k1
  obtain ⟨x0, x1, x2, x3, x4, x5, x6, x7, f0⟩ := cells8 k0
  obtain ⟨y0, y1, y2, y3, y4, y5, y6, y7, f1⟩ := cells8 k1
  clear kR
  have CT := hide (show Kd.C (Kd.int .i64) w2 A0 n ps by have h := (Kd.R_reads' KR.out).2.2; rw [HN.out] at h; exact h)
  have LA := hide (last_val m n1 n2 n3 A0 n c0 num q r w2 ps b ⟨HN.out, HL.out, CT.out⟩)
  go_wp2_with (first | (go_at_call 28; with_reducible refine (W1.out _).mono ?_; rintro e v ⟨rfl, hv⟩; subst v) | (go_at_call 28; with_reducible refine (W2.out _).mono ?_; rintro e v ⟨rfl, hv⟩; subst v) | (go_at_call 28; with_reducible refine (W3.out _).mono ?_; rintro e v ⟨rfl, hv⟩; subst v) | (go_at_call 31; (with_reducible refine LA.out.mono ?_); rintro e w6 ⟨v8, rfl, ha, hb6⟩; have HA := hide ha; obtain ⟨hc6, hf6⟩ := be_cells hb6; have hz6 := hb6.size; have t0 : w.heap.size < w6.heap.size := (by omega); have t1 : w.heap.size + 1 < w6.heap.size := (by omega); clear ha) | go_in)
  refine bodyPost_ret (results_ct rfl _ _ (w.heap.size + 1) 33 #[.int .i64 0, .int .i64 n1, .int .i64 n2, .int .i64 n3, .slice none 0 0, .int .i64 0, .bool false, .bool false] (0, 0) _ rfl ?_ Try.underlying33 rfl (by kernel_rfl)) rfl ?_
  · (apply bs_eq; (case h => (repeat (first | (with_reducible assumption) | (with_reducible apply bs_same) | (with_reducible apply bs_far; case hp => (dsimp only; omega)) | (with_reducible apply bs_drew) | (with_reducible apply bs_drewN) | (with_reducible apply bs_new; (first | (with_reducible rfl) | (simp; done))) | (with_reducible apply bs_alloc) | (with_reducible apply bs_below; (case hb => with_reducible assumption); (case hB => first | omega | (simp; omega) | (simp; done)))))); (case e => rfl))
  · refine ⟨_, v8, rfl, Kd.V_nil _ _ _ _ _, ActR.lower (base := w2.heap.size) ?_ (by omega), by (repeat (first | (with_reducible assumption) | with_reducible exact be_refl _ | (with_reducible refine be_set ?_ (by dsimp only; omega)) | (with_reducible apply be_drew) | (with_reducible apply be_drewN) | (with_reducible refine be_alloc ?_ (by first | omega | (simp; omega) | simp)) | (with_reducible refine be_call (by with_reducible assumption) (by first | omega | (simp; omega) | simp) ?_)))⟩
    repeat (with_reducible refine ActR.set ?_ (by dsimp only; omega) _)
    exact HA.out
end
theorem PS.of {w : World} {base : Nat} {P : Nat → Prop} {A : Option Addr} {n c : Nat} {ps : List Int} (hs : Kd.V (Kd.int .i64) 3 w base P (.slice A n c) ps) (h : ps.length ≤ 1000) : PS w A n ps := by
  obtain ⟨h1, h2⟩ := V_C hs
  exact ⟨h2, by omega, by rw [← h2]; exact h1⟩
theorem csi_val (s : E8) (A : Option Addr) (c : Nat) (b : Int) (h0 : 0 ≤ b) (h1 : b ≤ 255) (hk : -1 ≤ s.num ∧ s.num ≤ 65535) (hl : s.ps.length ≤ 16) (w : World) (P : Nat → Prop) (hs : Kd.V (Kd.int .i64) 3 w w.heap.size P (.slice A s.ps.length c) s.ps) :
    Calls Try.prog 21 #[esV s A s.ps.length c, .int .u8 b] w (OutE w P (csiP s b)) := by
  have hP := PS.of hs (by omega)
  by_cases e27 : b = 27
  · subst e27
    exact csi_esc _ _ _ _ _ _ _ _ _ _ _ _
  by_cases e24 : b = 24
  · subst e24
    exact csi_can _ _ _ _ _ _ _ _ _ _ _ _
  by_cases e26 : b = 26
  · subst e26
    exact csi_sub _ _ _ _ _ _ _ _ _ _ _ _
  have e2 : ¬ (b = 24 ∨ b = 26) := by omega
  by_cases d : 48 ≤ b ∧ b ≤ 57
  · rw [show csiP s b = (⟨s.m, s.n1, s.n2, s.n3, s.ps, numP s.num b, s.q, s.r⟩, []) by unfold csiP; rw [if_neg e27, if_neg e2, if_pos d]]
    by_cases f : s.num < 0
    · rw [show numP s.num b = b - 48 by unfold numP; rw [if_pos f]]
      exact csi_d0 _ _ _ _ _ _ _ _ _ _ _ _ _ hP b d.1 d.2 hk.1 hk.2 f
    by_cases f2 : 65535 < 10 * s.num + (b - 48)
    · rw [show numP s.num b = 65535 by unfold numP; rw [if_neg f, if_pos f2]]
      exact csi_d2 _ _ _ _ _ _ _ _ _ _ _ _ _ hP b d.1 d.2 hk.1 hk.2 (by omega) f2
    · rw [show numP s.num b = 10 * s.num + (b - 48) by unfold numP; rw [if_neg f, if_neg f2]]
      exact csi_d1 _ _ _ _ _ _ _ _ _ _ _ _ _ hP b d.1 d.2 hk.1 hk.2 (by omega) (by omega)
  by_cases e59 : b = 59
  · subst e59
    exact csi_semi _ _ _ _ _ _ _ _ _ _ _ _ _ hP
  by_cases e63 : b = 63
  · subst e63
    by_cases g1 : s.ps.length = 0
    · by_cases g2 : s.num = -1
      · cases hq : s.q with
        | true =>
          rw [show csiP s 63 = (⟨s.m, s.n1, s.n2, s.n3, s.ps, s.num, true, true⟩, []) by unfold csiP; simp [hq]]
          rw [show esV s A s.ps.length c = .agg #[.int .i64 s.m, .int .i64 s.n1, .int .i64 s.n2, .int .i64 s.n3, .slice A s.ps.length c, .int .i64 s.num, .bool true, .bool s.r] by rw [← hq]]
          exact csi_q2 s.m s.n1 s.n2 s.n3 A s.ps.length c s.num s.r w P s.ps hP g1 g2
        | false =>
          rw [show csiP s 63 = (⟨s.m, s.n1, s.n2, s.n3, s.ps, s.num, true, s.r⟩, []) by unfold csiP; simp [hq, g1, g2]]
          rw [show esV s A s.ps.length c = .agg #[.int .i64 s.m, .int .i64 s.n1, .int .i64 s.n2, .int .i64 s.n3, .slice A s.ps.length c, .int .i64 s.num, .bool false, .bool s.r] by rw [← hq]]
          exact csi_pri s.m s.n1 s.n2 s.n3 A s.ps.length c s.num s.r w P s.ps hP g1 g2
      · rw [show csiP s 63 = (⟨s.m, s.n1, s.n2, s.n3, s.ps, s.num, s.q, true⟩, []) by unfold csiP; simp [g2]]
        exact csi_q1 _ _ _ _ _ _ _ _ _ _ _ _ _ hP g1 g2
    · rw [show csiP s 63 = (⟨s.m, s.n1, s.n2, s.n3, s.ps, s.num, s.q, true⟩, []) by
        unfold csiP
        rw [if_neg (by decide), if_neg (by decide), if_neg (by decide), if_neg (by decide), if_neg (fun h => g1 h.2.1), if_pos (by decide)]]
      exact csi_q0 _ _ _ _ _ _ _ _ _ _ _ _ _ hP g1
  by_cases g : 32 ≤ b ∧ b ≤ 63
  · rw [show csiP s b = (⟨s.m, s.n1, s.n2, s.n3, s.ps, s.num, s.q, true⟩, []) by unfold csiP; rw [if_neg e27, if_neg e2, if_neg d, if_neg e59, if_neg (fun h => e63 h.1), if_pos g]]
    exact csi_skp _ _ _ _ _ _ _ _ _ _ _ _ _ hP b g.1 g.2 (by omega) e59 e63
  by_cases g2 : 64 ≤ b ∧ b ≤ 126
  · rw [show csiP s b = (toE s 0, lastA s.ps s.num s.q s.r b) by unfold csiP; rw [if_neg e27, if_neg e2, if_neg d, if_neg e59, if_neg (fun h => e63 h.1), if_neg g, if_pos g2]]
    exact csi_fin _ _ _ _ _ _ _ _ _ _ _ _ _ hP b g2.1 g2.2
  by_cases g3 : b < 32
  · rw [show csiP s b = (s, ctl b) by unfold csiP; rw [if_neg e27, if_neg e2, if_neg d, if_neg e59, if_neg (fun h => e63 h.1), if_neg g, if_neg g2, if_pos g3]]
    exact csi_ctl _ _ _ _ _ _ _ _ _ _ _ _ _ hP b e27 e24 e26 g3
  · rw [show csiP s b = (s, []) by unfold csiP; rw [if_neg e27, if_neg e2, if_neg d, if_neg e59, if_neg (fun h => e63 h.1), if_neg g, if_neg g2, if_neg g3]]
    exact csi_oth _ _ _ _ _ _ _ _ _ _ _ _ _ hP b (by omega)
end Go.Proofs.Ytiahfgcfgpakiaa.EscaVal


