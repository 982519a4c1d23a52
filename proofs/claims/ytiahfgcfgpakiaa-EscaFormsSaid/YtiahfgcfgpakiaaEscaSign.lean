/- What esca.sign hands back: a contract, for every escape that is begun and every rune. -/
import Derived.Test.YtiahfgcfgpakiaaEscaUtf3
namespace Go.Proofs.Ytiahfgcfgpakiaa.EscaVal
open Go Go.RowKit Go.Proofs.YtiahfgcfgpakiaaKit Go.Proofs.Ytiahfgcfgpakiaa.Mem Go.Proofs.YtiahfgcfgpakiaaW.PrintWords Go.Proofs.YtiahfgcfgpakiaaW.PrintLast Go.Proofs.Ytiahfgcfgpakiaa.Split
set_option linter.unusedVariables false
set_option linter.unusedSimpArgs false
theorem utf_val (n1 n2 n3 b : Int) (w : World) (h0 : 0 ≤ b) (h1 : b ≤ 255) (s0 : n1 ≤ 3) (s1 : 0 ≤ n3) (s2 : n3 < 32768) : Calls Try.prog 32 #[.agg #[.int .i64 n1, .int .i64 n2, .int .i64 n3], .int .u8 b] w (UtfOut w (utfP n1 n2 n3 b)) := by
  by_cases g : n1 ≤ 0
  · exact utf_none n1 n2 n3 b w h0 h1 g
  by_cases g1 : b < 128 ∨ 191 < b
  · exact utf_new n1 n2 n3 b w h0 h1 (by omega) g1
  by_cases g3 : 0 < n1 - 1
  · exact utf_on n1 n2 n3 b w h0 h1 (by omega) (by omega) (by omega) s0 s1 s2 g3
  by_cases g4 : 64 * n3 + Go.bits .and .u8 b 63 < n2 ∨ 1114111 < 64 * n3 + Go.bits .and .u8 b 63 ∨ (55296 ≤ 64 * n3 + Go.bits .and .u8 b 63 ∧ 64 * n3 + Go.bits .and .u8 b 63 ≤ 57343)
  · exact utf_bad n1 n2 n3 b w h0 h1 (by omega) (by omega) (by omega) s0 s1 s2 g3 g4
  · exact utf_got n1 n2 n3 b w h0 h1 (by omega) (by omega) (by omega) s0 s1 s2 g3 g4
section
variable (m n1 n2 n3 : Int) (A : Option Addr) (n c : Nat) (num : Int) (q r : Bool) (w : World) (P : Nat → Prop) (ps : List Int)
theorem sign_esc : Calls Try.prog 33 #[.agg #[.int .i64 m, .int .i64 n1, .int .i64 n2, .int .i64 n3, .slice A n c, .int .i64 num, .bool q, .bool r], .int .i32 27] w (Out w P 1 n1 n2 n3 [] 0 false false []) := by
  have TV := fun W => hide (to_val m n1 n2 n3 A n c num q r 1 W)
  go_enter Try.func33, Try.ntmps33
  go_wp2_with (go_at_call 27; with_reducible refine (TV _).out.mono ?_; rintro e w9 ⟨rfl, hb9⟩; have hz9 := hb9.size; simp at hz9; obtain ⟨hc9, hf9⟩ := be_cells hb9; have z9 : w.heap.size < w9.heap.size := (by omega); have y9 : w.heap.size + 1 < w9.heap.size := (by omega))
  refine bodyPost_ret (results_ct rfl _ _ (w.heap.size + 1) 33 #[.int .i64 1, .int .i64 n1, .int .i64 n2, .int .i64 n3, .slice none 0 0, .int .i64 0, .bool false, .bool false] (0, 0) _ rfl ?_ Try.underlying33 rfl (by kernel_rfl)) rfl ?_
  · (apply bs_eq; (case h => (repeat (first | (with_reducible assumption) | (with_reducible apply bs_same) | (with_reducible apply bs_far; case hp => (dsimp only; omega)) | (with_reducible apply bs_drew) | (with_reducible apply bs_drewN) | (with_reducible apply bs_new; (first | (with_reducible rfl) | (simp; done))) | (with_reducible apply bs_alloc) | (with_reducible apply bs_below; (case hb => with_reducible assumption); (case hB => first | omega | (simp; omega) | (simp; done)))))); (case e => rfl))
  · exact Out.nil (by (repeat (first | (with_reducible assumption) | with_reducible exact be_refl _ | (with_reducible refine be_set ?_ (by dsimp only; omega)) | (with_reducible apply be_drew) | (with_reducible apply be_drewN) | (with_reducible refine be_alloc ?_ (by first | omega | (simp; omega) | simp)) | (with_reducible refine be_call (by with_reducible assumption) (by first | omega | (simp; omega) | simp) ?_))))
set_option maxHeartbeats 4000000 in
set_option maxRecDepth 100000 in
theorem sign_ctl (x : Int) (h0 : 0 ≤ x) (h1 : x ≠ 27) (h2 : x < 32) (hs : Kd.V (Kd.int .i64) 3 w w.heap.size P (.slice A n c) ps) : Calls Try.prog 33 #[.agg #[.int .i64 m, .int .i64 n1, .int .i64 n2, .int .i64 n3, .slice A n c, .int .i64 num, .bool q, .bool r], .int .i32 x] w (Out w P m n1 n2 n3 ps num q r (ctl x)) := by
  have e1 : (x == 27) = false := by simp; omega
  have p1 : (x < 32) = True := eq_true h2
  have HW := hide (show IntKind.u8.wrap x = x by rw [IntKind.wrap_u8]; omega)
  have CV := fun W => hide (control_val (IntKind.u8.wrap x) W)
  have HS := hide hs
  clear hs
  go_enter Try.func33, Try.ntmps33
  go_upto_region 4 with fail
  apply wp_letter2 (w.heap.size) w (w.heap.size) 33 (w.heap.size + 1) 33
  case h0 => (repeat (first | (with_reducible assumption) | (with_reducible apply bs_same) | (with_reducible apply bs_far; case hp => (dsimp only; omega)) | (with_reducible apply bs_drew) | (with_reducible apply bs_drewN) | (with_reducible apply bs_new; (first | (with_reducible rfl) | (simp; done))) | (with_reducible apply bs_alloc) | (with_reducible apply bs_below; (case hb => with_reducible assumption); (case hB => first | omega | (simp; omega) | (simp; done)))))
  case h1 => (repeat (first | (with_reducible assumption) | (with_reducible apply bs_same) | (with_reducible apply bs_far; case hp => (dsimp only; omega)) | (with_reducible apply bs_drew) | (with_reducible apply bs_drewN) | (with_reducible apply bs_new; (first | (with_reducible rfl) | (simp; done))) | (with_reducible apply bs_alloc) | (with_reducible apply bs_below; (case hb => with_reducible assumption); (case hB => first | omega | (simp; omega) | (simp; done)))))
  case hb => (repeat (first | (with_reducible assumption) | with_reducible exact be_refl _ | (with_reducible refine be_set ?_ (by dsimp only; omega)) | (with_reducible apply be_drew) | (with_reducible apply be_drewN) | (with_reducible refine be_alloc ?_ (by first | omega | (simp; omega) | simp)) | (with_reducible refine be_call (by with_reducible assumption) (by first | omega | (simp; omega) | simp) ?_)))
  intro w1_ k1_0 k1_1 HB1
  try simp only [List.setIfInBounds_toArray, List.set_cons_zero, List.set_cons_succ] at k1_0 k1_1
  obtain ⟨c1_0_0, c1_0_1, c1_0_2, c1_0_3, c1_0_4, c1_0_5, c1_0_6, c1_0_7, f1_0⟩ := cells8 k1_0
  have s1_0 := bs_lt k1_0
  obtain ⟨c1_1_0, c1_1_1, c1_1_2, c1_1_3, c1_1_4, c1_1_5, c1_1_6, c1_1_7, f1_1⟩ := cells8 k1_1
  have s1_1 := bs_lt k1_1
  have nb : w.heap.size ≠ w.heap.size + 1 := by omega
  have nb2 : w.heap.size + 1 ≠ w.heap.size := by omega
  (first | (go_region_held3 (fun w' => w'.cell? ⟨w.heap.size, 0, none⟩ = some (.int .i64 m) ∧ w'.cell? ⟨w.heap.size, 1, none⟩ = some (.int .i64 n1) ∧ w'.cell? ⟨w.heap.size, 2, none⟩ = some (.int .i64 n2) ∧ w'.cell? ⟨w.heap.size, 3, none⟩ = some (.int .i64 n3) ∧ w'.cell? ⟨w.heap.size, 4, none⟩ = some (.slice A n c) ∧ w'.cell? ⟨w.heap.size, 5, none⟩ = some (.int .i64 num) ∧ w'.cell? ⟨w.heap.size, 6, none⟩ = some (.bool q) ∧ w'.cell? ⟨w.heap.size, 7, none⟩ = some (.bool r)) ((first | go_keep | (simp [*]; done))) ((go_at_call 29; with_reducible refine (CV _).out.mono ?_; rintro e w7 ⟨v8, rfl, ha, hb⟩; obtain ⟨hk, hfk⟩ := be_known hb; have HA := hide ha; have HB7 := hide hb; clear ha hb))) | fail "region")
  go_wp2
  have hb7 := HB7.out
  have hz7 := hb7.size
  have hn7 := HA.out.own
  have hdz : w1_.drew.heap.size = w1_.heap.size := rfl
  rw [hdz] at hz7 hn7
  refine bodyPost_ret (results_ct rfl _ _ (w.heap.size + 1) 33 #[.int .i64 m, .int .i64 n1, .int .i64 n2, .int .i64 n3, .slice A n c, .int .i64 num, .bool q, .bool r] (0, 0) _ rfl ?_ Try.underlying33 rfl (by kernel_rfl)) rfl ?_
  · (apply bs_eq; (case h => (repeat (first | (with_reducible assumption) | (with_reducible apply bs_same) | (with_reducible apply bs_far; case hp => (dsimp only; omega)) | (with_reducible apply bs_drew) | (with_reducible apply bs_drewN) | (with_reducible apply bs_new; (first | (with_reducible rfl) | (simp; done))) | (with_reducible apply bs_alloc) | (with_reducible apply bs_below; (case hb => with_reducible assumption); (case hB => first | omega | (simp; omega) | (simp; done)))))); (case e => rfl))
  · refine ⟨_, v8, rfl, Kd.V_mono (par_old HS.out (by (repeat (first | (with_reducible assumption) | with_reducible exact be_refl _ | (with_reducible refine be_set ?_ (by dsimp only; omega)) | (with_reducible apply be_drew) | (with_reducible apply be_drewN) | (with_reducible refine be_alloc ?_ (by first | omega | (simp; omega) | simp)) | (with_reducible refine be_call (by with_reducible assumption) (by first | omega | (simp; omega) | simp) ?_)))) (fun k hk => by have := hn7 k hk; omega)) (fun k hk => ⟨.inl hk.1, hk.2⟩), ActR.lower (base := w1_.heap.size) ?_ (by omega), by (repeat (first | (with_reducible assumption) | with_reducible exact be_refl _ | (with_reducible refine be_set ?_ (by dsimp only; omega)) | (with_reducible apply be_drew) | (with_reducible apply be_drewN) | (with_reducible refine be_alloc ?_ (by first | omega | (simp; omega) | simp)) | (with_reducible refine be_call (by with_reducible assumption) (by first | omega | (simp; omega) | simp) ?_)))⟩
    repeat (with_reducible refine ActR.set ?_ (by dsimp only; omega) _)
    have h := HA.out
    rw [HW.out] at h
    exact h
theorem sign_no (x : Int) (h1 : 127 ≤ x) (h2 : x ≤ 159) (hs : Kd.V (Kd.int .i64) 3 w w.heap.size P (.slice A n c) ps) : Calls Try.prog 33 #[.agg #[.int .i64 m, .int .i64 n1, .int .i64 n2, .int .i64 n3, .slice A n c, .int .i64 num, .bool q, .bool r], .int .i32 x] w (Out w P m n1 n2 n3 ps num q r []) := by
  have e1 : (x == 27) = false := by simp; omega
  have p1 : (x < 32) = False := eq_false (by omega)
  have p2 : (127 ≤ x) = True := eq_true h1
  have p3 : (x ≤ 159) = True := eq_true h2
  have HS := hide hs
  clear hs h1 h2
  go_enter Try.func33, Try.ntmps33
  go_wp2
  refine bodyPost_ret (results_ct rfl _ _ (w.heap.size + 1) 33 #[.int .i64 m, .int .i64 n1, .int .i64 n2, .int .i64 n3, .slice A n c, .int .i64 num, .bool q, .bool r] (0, 0) _ rfl ?_ Try.underlying33 rfl (by kernel_rfl)) rfl ?_
  · (apply bs_eq; (case h => (repeat (first | (with_reducible assumption) | (with_reducible apply bs_same) | (with_reducible apply bs_far; case hp => (dsimp only; omega)) | (with_reducible apply bs_drew) | (with_reducible apply bs_drewN) | (with_reducible apply bs_new; (first | (with_reducible rfl) | (simp; done))) | (with_reducible apply bs_alloc) | (with_reducible apply bs_below; (case hb => with_reducible assumption); (case hB => first | omega | (simp; omega) | (simp; done)))))); (case e => rfl))
  · exact Out.stay HS.out (by (repeat (first | (with_reducible assumption) | with_reducible exact be_refl _ | (with_reducible refine be_set ?_ (by dsimp only; omega)) | (with_reducible apply be_drew) | (with_reducible apply be_drewN) | (with_reducible refine be_alloc ?_ (by first | omega | (simp; omega) | simp)) | (with_reducible refine be_call (by with_reducible assumption) (by first | omega | (simp; omega) | simp) ?_))))
theorem sign_pr (x : Int) (h1 : 32 ≤ x) (h2 : x < 127 ∨ 159 < x) (hs : Kd.V (Kd.int .i64) 3 w w.heap.size P (.slice A n c) ps) : Calls Try.prog 33 #[.agg #[.int .i64 m, .int .i64 n1, .int .i64 n2, .int .i64 n3, .slice A n c, .int .i64 num, .bool q, .bool r], .int .i32 x] w (Out w P m n1 n2 n3 ps num q r [(1, x, [])]) := by
  have e1 : (x == 27) = false := by simp; omega
  have p1 : (x < 32) = False := eq_false (by omega)
  have HS := hide hs
  clear hs
  have hx : (127 ≤ x) = False ∨ ((127 ≤ x) = True ∧ (x ≤ 159) = False) := by
    rcases h2 with h | h
    · exact .inl (eq_false (by omega))
    · exact .inr ⟨eq_true (by omega), eq_false (by omega)⟩
  clear h1 h2
  rcases hx with p2 | ⟨p2, p3⟩
  all_goals
    go_enter Try.func33, Try.ntmps33
    go_wp2
    refine bodyPost_ret (results_ct rfl _ _ (w.heap.size + 1) 33 #[.int .i64 m, .int .i64 n1, .int .i64 n2, .int .i64 n3, .slice A n c, .int .i64 num, .bool q, .bool r] (0, 0) _ rfl ?_ Try.underlying33 rfl (by kernel_rfl)) rfl ?_
    · (apply bs_eq; (case h => (repeat (first | (with_reducible assumption) | (with_reducible apply bs_same) | (with_reducible apply bs_far; case hp => (dsimp only; omega)) | (with_reducible apply bs_drew) | (with_reducible apply bs_drewN) | (with_reducible apply bs_new; (first | (with_reducible rfl) | (simp; done))) | (with_reducible apply bs_alloc) | (with_reducible apply bs_below; (case hb => with_reducible assumption); (case hB => first | omega | (simp; omega) | (simp; done)))))); (case e => rfl))
    · exact ⟨_, .slice (some ⟨w.heap.size + 2, 0, none⟩) 1 1, rfl, Kd.V_mono (par_old HS.out (by (repeat (first | (with_reducible assumption) | with_reducible exact be_refl _ | (with_reducible refine be_set ?_ (by dsimp only; omega)) | (with_reducible apply be_drew) | (with_reducible apply be_drewN) | (with_reducible refine be_alloc ?_ (by first | omega | (simp; omega) | simp)) | (with_reducible refine be_call (by with_reducible assumption) (by first | omega | (simp; omega) | simp) ?_)))) (fun k hk => by have : w.heap.size + 2 = k := (by simpa [Value.ownBlock] using hk); omega)) (fun k hk => ⟨.inl hk.1, hk.2⟩), .inr ⟨1, x, [], w.heap.size + 2, .slice none 0 0, rfl, by omega, rfl, by (repeat (first | (with_reducible assumption) | (with_reducible apply bs_same) | (with_reducible apply bs_far; case hp => (dsimp only; omega)) | (with_reducible apply bs_drew) | (with_reducible apply bs_drewN) | (with_reducible apply bs_new; (first | (with_reducible rfl) | (simp; done))) | (with_reducible apply bs_alloc) | (with_reducible apply bs_below; (case hb => with_reducible assumption); (case hB => first | omega | (simp; omega) | (simp; done))))), Kd.R_nil _ _ _ _ _⟩, by (repeat (first | (with_reducible assumption) | with_reducible exact be_refl _ | (with_reducible refine be_set ?_ (by dsimp only; omega)) | (with_reducible apply be_drew) | (with_reducible apply be_drewN) | (with_reducible refine be_alloc ?_ (by first | omega | (simp; omega) | simp)) | (with_reducible refine be_call (by with_reducible assumption) (by first | omega | (simp; omega) | simp) ?_)))⟩
end
/-- An escape as a value. -/
abbrev esV (s : E8) (A : Option Addr) (n c : Nat) : Value := .agg #[.int .i64 s.m, .int .i64 s.n1, .int .i64 s.n2, .int .i64 s.n3, .slice A n c, .int .i64 s.num, .bool s.q, .bool s.r]
def OutE (w : World) (P : Nat → Prop) (u : E8 × List Act3) (e : Ending) (w' : World) : Prop := Out w P u.1.m u.1.n1 u.1.n2 u.1.n3 u.1.ps u.1.num u.1.q u.1.r u.2 e w'
theorem sign_val (s : E8) (A : Option Addr) (n c : Nat) (x : Int) (h0 : 0 ≤ x) (w : World) (P : Nat → Prop) (hs : Kd.V (Kd.int .i64) 3 w w.heap.size P (.slice A n c) s.ps) :
    Calls Try.prog 33 #[esV s A n c, .int .i32 x] w (OutE w P (signP s x)) := by
  by_cases h1 : x = 27
  · subst h1
    rw [show signP s 27 = (toE s 1, []) from rfl]
    exact sign_esc _ _ _ _ _ _ _ _ _ _ _ _
  by_cases h2 : x < 32
  · rw [show signP s x = (s, ctl x) by unfold signP; rw [if_neg h1, if_pos h2]]
    exact sign_ctl _ _ _ _ _ _ _ _ _ _ _ _ _ x h0 h1 h2 hs
  by_cases h3 : 127 ≤ x ∧ x ≤ 159
  · rw [show signP s x = (s, []) by unfold signP; rw [if_neg h1, if_neg h2, if_pos h3]]
    exact sign_no _ _ _ _ _ _ _ _ _ _ _ _ _ x h3.1 h3.2 hs
  · rw [show signP s x = (s, [(1, x, [])]) by unfold signP; rw [if_neg h1, if_neg h2, if_neg h3]]
    exact sign_pr _ _ _ _ _ _ _ _ _ _ _ _ _ x (by omega) (by omega) hs
end Go.Proofs.Ytiahfgcfgpakiaa.EscaVal


