/- What the functions of the package esca hand back, way by way, further: contracts, each for every escape that is begun and every byte of its kind. -/
import Derived.Test.YtiahfgcfgpakiaaEscaRest
namespace Go.Proofs.Ytiahfgcfgpakiaa.EscaVal
open Go Go.RowKit Go.Proofs.YtiahfgcfgpakiaaKit Go.Proofs.Ytiahfgcfgpakiaa.Mem Go.Proofs.YtiahfgcfgpakiaaW.PrintWords Go.Proofs.YtiahfgcfgpakiaaW.PrintLast
set_option linter.unusedVariables false
set_option linter.unusedSimpArgs false
theorem frozen_alloc_some (w : World) (ob : Obj) (b o : Nat) (h : (w.cell? ⟨b, o, none⟩).isSome = true) : (w.alloc ob).frozen? ⟨b, o, none⟩ = w.frozen? ⟨b, o, none⟩ := (be_known (be_alloc (be_refl w) (Nat.le_refl _))).2 b o h
attribute [local go_sem] frozen_alloc_some cell_alloc_some cell_alloc2_some cell_alloc3_some cell_alloc4_some
section
variable (m n1 n2 n3 : Int) (A : Option Addr) (n c : Nat) (num : Int) (q r : Bool) (w : World) (P : Nat → Prop) (ps : List Int)
def lastP (ps : List Int) (num : Int) : List Int := if num = -1 ∧ ps.length = 0 then ps else toldP ps num
def lastA (ps : List Int) (num : Int) (q r : Bool) (b : Int) : List (Int × Int × List Int) := if r = true then [] else [(if q = true then 5 else 4, wrap32 b, lastP ps num)]
def Mid (w : World) (cs : Array Value) (kd b : Int) (g : Nat) (v0 : Value) (qs : List Int) (W : World) : Prop :=
  W.heap[w.heap.size]? = some (.cells cs 33 (0, 0)) ∧ W.heap[w.heap.size + 1]? = some (.cells #[.int .i64 0, .int .i64 0, .int .i64 0, .int .i64 0, .slice none 0 0, .int .i64 0, .bool false, .bool false] 33 (0, 0)) ∧ W.heap[g]? = some (.cells #[.int .i64 kd, .int .i32 (wrap32 b), v0] 24 (0, 0)) ∧ w.heap.size + 2 ≤ g ∧
  Kd.R (Kd.int .i64) 3 W (w.heap.size + 2) (fun k => w.heap.size + 2 ≤ k ∧ k ≠ g) v0 qs ∧ Below w.heap.size w W
theorem R_set2 {W : World} {base g : Nat} {v : Value} {xs : List Int} {p : Addr} (h : Kd.R (Kd.int .i64) 3 W base (fun k => base ≤ k ∧ k ≠ g) v xs) (hp : p.block < base ∨ p.block = g) (x : Value) : Kd.R (Kd.int .i64) 3 (W.setCell p x) base (fun k => base ≤ k ∧ k ≠ g) v xs := Kd.R_far h (fun k hk => by omega) x
theorem R_set3 {W : World} {base N : Nat} {v : Value} {xs : List Int} {p : Addr} (h : Kd.R (Kd.int .i64) 3 W base (fun k => base ≤ k ∧ k < N) v xs) (hp : p.block < base) (x : Value) : Kd.R (Kd.int .i64) 3 (W.setCell p x) base (fun k => base ≤ k ∧ k < N) v xs := Kd.R_far h (fun k hk => by omega) x
set_option maxHeartbeats 4000000 in
set_option maxRecDepth 100000 in
theorem last_n_tt (b : Int) (hs : PS w A n ps) (h1 : num = -1) (h2 : ps.length = 0) : Calls Try.prog 31 #[.agg #[.int .i64 m, .int .i64 n1, .int .i64 n2, .int .i64 n3, .slice A n c, .int .i64 num, .bool true, .bool true], .int .u8 b] w fun e w' => ∃ v8 : Value, e = .returned (.tuple #[.agg #[.int .i64 0, .int .i64 n1, .int .i64 n2, .int .i64 n3, .slice none 0 0, .int .i64 0, .bool false, .bool false], v8]) ∧ ActR w' w.heap.size v8 (lastA ps num true true b) ∧ Below w.heap.size w w' := by
  have q1 : (num != -1) = false := by simp [h1]
  have q2 : ((0 : Int) < (n : Int)) = False := eq_false (by have := hs.1; omega)
  have q3 : (0 < n) = False := eq_false (by have := hs.1; omega)
  have HP := hide (show lastP ps num = ps by unfold lastP; rw [if_pos (by omega)])
  rw [show lastA ps num true true b = [] from rfl]
  obtain ⟨hn, hl, hC⟩ := hs
  have CV := fun W hb => hide (clone_val W A n c ps hn (C_at hC hb) (by omega))
  have TV := fun W => hide (to_val m n1 n2 n3 A n c num true true 0 W)
  have CT := fun W (hb : Below w.heap.size w W) => hide (told_val W m n1 n2 n3 A n c num true true ps hn (C_at hC hb) (by omega))
  have HN := hide hn
  have HL := hide hl
  clear hn hl hC h1 h2
  go_enter Try.func31, Try.ntmps31
  go_upto_region 2 with (go_at_call 17; with_reducible refine (CV _ (be_alloc (be_alloc (be_refl _) (Nat.le_refl _)) (by simp))).out.mono ?_; rintro e w7 ⟨v0, rfl, hR, hb7⟩; obtain ⟨A0, c0, hv0⟩ := Kd.R_slice hR; rw [HN.out] at hv0; subst hv0; obtain ⟨hc7, hf7⟩ := be_cells hb7; have hz7 := hb7.size; simp at hz7)
  refine wp_letter (Mid w #[.int .i64 m, .int .i64 n1, .int .i64 n2, .int .i64 n3, .slice A n c, .int .i64 num, .bool true, .bool true] 4 b w7.heap.size (.slice A0 n c0) ps) ⟨?_, ?_, ?_, by omega, ?_, ?_⟩ ?_
  · (repeat (first | (with_reducible assumption) | (with_reducible apply bs_same) | (with_reducible apply bs_far; case hp => (dsimp only; omega)) | (with_reducible apply bs_drew) | (with_reducible apply bs_drewN) | (with_reducible apply bs_new; (first | (with_reducible rfl) | (simp; done))) | (with_reducible apply bs_alloc) | (with_reducible apply bs_below; (case hb => with_reducible assumption); (case hB => first | omega | (simp; omega) | (simp; done)))))
  · (repeat (first | (with_reducible assumption) | (with_reducible apply bs_same) | (with_reducible apply bs_far; case hp => (dsimp only; omega)) | (with_reducible apply bs_drew) | (with_reducible apply bs_drewN) | (with_reducible apply bs_new; (first | (with_reducible rfl) | (simp; done))) | (with_reducible apply bs_alloc) | (with_reducible apply bs_below; (case hb => with_reducible assumption); (case hB => first | omega | (simp; omega) | (simp; done)))))
  · (repeat (first | (with_reducible assumption) | (with_reducible apply bs_same) | (with_reducible apply bs_far; case hp => (dsimp only; omega)) | (with_reducible apply bs_drew) | (with_reducible apply bs_drewN) | (with_reducible apply bs_new; (first | (with_reducible rfl) | (simp; done))) | (with_reducible apply bs_alloc) | (with_reducible apply bs_below; (case hb => with_reducible assumption); (case hB => first | omega | (simp; omega) | (simp; done)))))
  · exact Kd.R_alloc (Kd.R_mono (Kd.R_bound (Kd.R_lower (base' := w.heap.size + 2) (R_base hR) (by simp))) (fun k hk => ⟨hk.2.1, by have := hk.2.2.1; omega⟩)) _
  · (repeat (first | (with_reducible assumption) | with_reducible exact be_refl _ | (with_reducible refine be_set ?_ (by dsimp only; omega)) | (with_reducible apply be_drew) | (with_reducible apply be_drewN) | (with_reducible refine be_alloc ?_ (by first | omega | (simp; omega) | simp)) | (with_reducible refine be_call (by with_reducible assumption) (by first | omega | (simp; omega) | simp) ?_)))
  obtain ⟨g, hg⟩ : ∃ g, g = w7.heap.size := ⟨_, rfl⟩
  rw [← hg]
  clear hg hR hb7 hc7 hf7 hz7 CV
  intro w2 hP
  obtain ⟨k0, k1, k2, hg2, kR, kB⟩ := hP
  have KR := hide kR
  have s0 := bs_lt k0
  have s1 := bs_lt k1
  have s2 := bs_lt k2
  obtain ⟨x0, x1, x2, x3, x4, x5, x6, x7, f0⟩ := cells8 k0
  obtain ⟨y0, y1, y2, y3, y4, y5, y6, y7, f1⟩ := cells8 k1
  obtain ⟨z0, z1, z2, f2⟩ := cells3 k2
  clear kR
  have g0 : g ≠ w.heap.size := by omega
  have g1 : g ≠ w.heap.size + 1 := by omega
  have g2 : w.heap.size + 1 ≠ g := by omega
  have g3 : w.heap.size ≠ g := by omega
  go_wp2_with (first | (go_at_call 27; with_reducible refine (TV _).out.mono ?_; rintro e w8 ⟨rfl, hb8⟩; have hz8 := hb8.size; (try simp at hz8); obtain ⟨hc8, hf8⟩ := be_cells hb8; have u0 : w.heap.size < w8.heap.size := (by omega); have u1 : w.heap.size + 1 < w8.heap.size := (by omega)) | go_in)
  refine bodyPost_ret (results_ct rfl _ _ (w.heap.size + 1) 33 #[.int .i64 0, .int .i64 n1, .int .i64 n2, .int .i64 n3, .slice none 0 0, .int .i64 0, .bool false, .bool false] (0, 0) _ rfl ?_ Try.underlying33 rfl (by kernel_rfl)) rfl ?_
  · (apply bs_eq; (case h => (repeat (first | (with_reducible assumption) | (with_reducible apply bs_same) | (with_reducible apply bs_far; case hp => (dsimp only; omega)) | (with_reducible apply bs_drew) | (with_reducible apply bs_drewN) | (with_reducible apply bs_new; (first | (with_reducible rfl) | (simp; done))) | (with_reducible apply bs_alloc) | (with_reducible apply bs_below; (case hb => with_reducible assumption); (case hB => first | omega | (simp; omega) | (simp; done)))))); (case e => rfl))
  · exact ⟨_, rfl, .nil _ _, by (repeat (first | (with_reducible assumption) | with_reducible exact be_refl _ | (with_reducible refine be_set ?_ (by dsimp only; omega)) | (with_reducible apply be_drew) | (with_reducible apply be_drewN) | (with_reducible refine be_alloc ?_ (by first | omega | (simp; omega) | simp)) | (with_reducible refine be_call (by with_reducible assumption) (by first | omega | (simp; omega) | simp) ?_)))⟩
set_option maxHeartbeats 4000000 in
set_option maxRecDepth 100000 in
theorem last_n_tf (b : Int) (hs : PS w A n ps) (h1 : num = -1) (h2 : ps.length = 0) : Calls Try.prog 31 #[.agg #[.int .i64 m, .int .i64 n1, .int .i64 n2, .int .i64 n3, .slice A n c, .int .i64 num, .bool true, .bool false], .int .u8 b] w fun e w' => ∃ v8 : Value, e = .returned (.tuple #[.agg #[.int .i64 0, .int .i64 n1, .int .i64 n2, .int .i64 n3, .slice none 0 0, .int .i64 0, .bool false, .bool false], v8]) ∧ ActR w' w.heap.size v8 (lastA ps num true false b) ∧ Below w.heap.size w w' := by
  have q1 : (num != -1) = false := by simp [h1]
  have q2 : ((0 : Int) < (n : Int)) = False := eq_false (by have := hs.1; omega)
  have q3 : (0 < n) = False := eq_false (by have := hs.1; omega)
  have HP := hide (show lastP ps num = ps by unfold lastP; rw [if_pos (by omega)])
  rw [show lastA ps num true false b = [(5, wrap32 b, lastP ps num)] from rfl, HP.out]
  obtain ⟨hn, hl, hC⟩ := hs
  have CV := fun W hb => hide (clone_val W A n c ps hn (C_at hC hb) (by omega))
  have TV := fun W => hide (to_val m n1 n2 n3 A n c num true false 0 W)
  have CT := fun W (hb : Below w.heap.size w W) => hide (told_val W m n1 n2 n3 A n c num true false ps hn (C_at hC hb) (by omega))
  have HN := hide hn
  have HL := hide hl
  clear hn hl hC h1 h2
  go_enter Try.func31, Try.ntmps31
  go_upto_region 2 with (go_at_call 17; with_reducible refine (CV _ (be_alloc (be_alloc (be_refl _) (Nat.le_refl _)) (by simp))).out.mono ?_; rintro e w7 ⟨v0, rfl, hR, hb7⟩; obtain ⟨A0, c0, hv0⟩ := Kd.R_slice hR; rw [HN.out] at hv0; subst hv0; obtain ⟨hc7, hf7⟩ := be_cells hb7; have hz7 := hb7.size; simp at hz7)
  refine wp_letter (Mid w #[.int .i64 m, .int .i64 n1, .int .i64 n2, .int .i64 n3, .slice A n c, .int .i64 num, .bool true, .bool false] 4 b w7.heap.size (.slice A0 n c0) ps) ⟨?_, ?_, ?_, by omega, ?_, ?_⟩ ?_
  · (repeat (first | (with_reducible assumption) | (with_reducible apply bs_same) | (with_reducible apply bs_far; case hp => (dsimp only; omega)) | (with_reducible apply bs_drew) | (with_reducible apply bs_drewN) | (with_reducible apply bs_new; (first | (with_reducible rfl) | (simp; done))) | (with_reducible apply bs_alloc) | (with_reducible apply bs_below; (case hb => with_reducible assumption); (case hB => first | omega | (simp; omega) | (simp; done)))))
  · (repeat (first | (with_reducible assumption) | (with_reducible apply bs_same) | (with_reducible apply bs_far; case hp => (dsimp only; omega)) | (with_reducible apply bs_drew) | (with_reducible apply bs_drewN) | (with_reducible apply bs_new; (first | (with_reducible rfl) | (simp; done))) | (with_reducible apply bs_alloc) | (with_reducible apply bs_below; (case hb => with_reducible assumption); (case hB => first | omega | (simp; omega) | (simp; done)))))
  · (repeat (first | (with_reducible assumption) | (with_reducible apply bs_same) | (with_reducible apply bs_far; case hp => (dsimp only; omega)) | (with_reducible apply bs_drew) | (with_reducible apply bs_drewN) | (with_reducible apply bs_new; (first | (with_reducible rfl) | (simp; done))) | (with_reducible apply bs_alloc) | (with_reducible apply bs_below; (case hb => with_reducible assumption); (case hB => first | omega | (simp; omega) | (simp; done)))))
  · exact Kd.R_alloc (Kd.R_mono (Kd.R_bound (Kd.R_lower (base' := w.heap.size + 2) (R_base hR) (by simp))) (fun k hk => ⟨hk.2.1, by have := hk.2.2.1; omega⟩)) _
  · (repeat (first | (with_reducible assumption) | with_reducible exact be_refl _ | (with_reducible refine be_set ?_ (by dsimp only; omega)) | (with_reducible apply be_drew) | (with_reducible apply be_drewN) | (with_reducible refine be_alloc ?_ (by first | omega | (simp; omega) | simp)) | (with_reducible refine be_call (by with_reducible assumption) (by first | omega | (simp; omega) | simp) ?_)))
  obtain ⟨g, hg⟩ : ∃ g, g = w7.heap.size := ⟨_, rfl⟩
  rw [← hg]
  clear hg hR hb7 hc7 hf7 hz7 CV
  intro w2 hP
  obtain ⟨k0, k1, k2, hg2, kR, kB⟩ := hP
  have KR := hide kR
  have s0 := bs_lt k0
  have s1 := bs_lt k1
  have s2 := bs_lt k2
  obtain ⟨x0, x1, x2, x3, x4, x5, x6, x7, f0⟩ := cells8 k0
  obtain ⟨y0, y1, y2, y3, y4, y5, y6, y7, f1⟩ := cells8 k1
  obtain ⟨z0, z1, z2, f2⟩ := cells3 k2
  clear kR
  have g0 : g ≠ w.heap.size := by omega
  have g1 : g ≠ w.heap.size + 1 := by omega
  have g2 : w.heap.size + 1 ≠ g := by omega
  have g3 : w.heap.size ≠ g := by omega
  go_upto_region 8 with (first | fail | go_in)
  refine wp_letter (Mid w #[.int .i64 m, .int .i64 n1, .int .i64 n2, .int .i64 n3, .slice A n c, .int .i64 num, .bool true, .bool false] 5 b g (.slice A0 n c0) ps) ⟨?_, ?_, ?_, hg2, ?_, ?_⟩ ?_
  · (repeat (first | (with_reducible assumption) | (with_reducible apply bs_same) | (with_reducible apply bs_far; case hp => (dsimp only; omega)) | (with_reducible apply bs_drew) | (with_reducible apply bs_drewN) | (with_reducible apply bs_new; (first | (with_reducible rfl) | (simp; done))) | (with_reducible apply bs_alloc) | (with_reducible apply bs_below; (case hb => with_reducible assumption); (case hB => first | omega | (simp; omega) | (simp; done)))))
  · (repeat (first | (with_reducible assumption) | (with_reducible apply bs_same) | (with_reducible apply bs_far; case hp => (dsimp only; omega)) | (with_reducible apply bs_drew) | (with_reducible apply bs_drewN) | (with_reducible apply bs_new; (first | (with_reducible rfl) | (simp; done))) | (with_reducible apply bs_alloc) | (with_reducible apply bs_below; (case hb => with_reducible assumption); (case hB => first | omega | (simp; omega) | (simp; done)))))
  · (apply bs_eq; (case h => (repeat (first | (with_reducible assumption) | (with_reducible apply bs_same) | (with_reducible apply bs_far; case hp => (dsimp only; omega)) | (with_reducible apply bs_drew) | (with_reducible apply bs_drewN) | (with_reducible apply bs_new; (first | (with_reducible rfl) | (simp; done))) | (with_reducible apply bs_alloc) | (with_reducible apply bs_below; (case hb => with_reducible assumption); (case hB => first | omega | (simp; omega) | (simp; done)))))); (case e => rfl))
  · repeat (with_reducible refine R_set2 ?_ (by dsimp only; omega) _)
    exact KR.out
  · (repeat (first | (with_reducible assumption) | with_reducible exact be_refl _ | (with_reducible refine be_set ?_ (by dsimp only; omega)) | (with_reducible apply be_drew) | (with_reducible apply be_drewN) | (with_reducible refine be_alloc ?_ (by first | omega | (simp; omega) | simp)) | (with_reducible refine be_call (by with_reducible assumption) (by first | omega | (simp; omega) | simp) ?_)))
  clear k0 k1 k2 kB KR s0 s1 s2 x0 x1 x2 x3 x4 x5 x6 x7 y0 y1 y2 y3 y4 y5 y6 y7 z0 z1 z2 f0 f1 f2
  intro w3 hP3
  obtain ⟨k0, k1, k2, _, kR, kB⟩ := hP3
  have KR := hide kR
  have s0 := bs_lt k0
  have s1 := bs_lt k1
  have s2 := bs_lt k2
  obtain ⟨x0, x1, x2, x3, x4, x5, x6, x7, f0⟩ := cells8 k0
  obtain ⟨y0, y1, y2, y3, y4, y5, y6, y7, f1⟩ := cells8 k1
  obtain ⟨z0, z1, z2, f2⟩ := cells3 k2
  clear kR
  have K3 := hide (show Kd.R (Kd.int .i64) 3 w3 (w.heap.size + 2) (fun k => w.heap.size + 2 ≤ k ∧ k < w3.heap.size) (.slice A0 n c0) ps from Kd.R_mono (Kd.R_bound KR.out) (fun k hk => ⟨hk.2.1, hk.2.2.1⟩))
  (first | (go_region_held3 (fun w' => w'.cell? ⟨w.heap.size, 0, none⟩ = some (.int .i64 m) ∧ w'.cell? ⟨w.heap.size, 1, none⟩ = some (.int .i64 n1) ∧ w'.cell? ⟨w.heap.size, 2, none⟩ = some (.int .i64 n2) ∧ w'.cell? ⟨w.heap.size, 3, none⟩ = some (.int .i64 n3) ∧ w'.cell? ⟨w.heap.size, 4, none⟩ = some (.slice A n c) ∧ w'.cell? ⟨w.heap.size, 5, none⟩ = some (.int .i64 num) ∧ w'.cell? ⟨w.heap.size, 6, none⟩ = some (.bool true) ∧ w'.cell? ⟨w.heap.size, 7, none⟩ = some (.bool false) ∧ w'.cell? ⟨g, 0, none⟩ = some (.int .i64 5) ∧ w'.cell? ⟨g, 1, none⟩ = some (.int .i32 (wrap32 b)) ∧ w'.cell? ⟨g, 2, none⟩ = some (.slice A0 n c0)) ((first | go_keep | (simp [*]; done))) ((go_at_call 27; with_reducible refine (TV _).out.mono ?_; rintro e w8 ⟨rfl, hb8⟩; obtain ⟨hk, hfk⟩ := be_known hb8; have hz8 := hb8.size; (try simp at hz8)))) | fail "region")
  all_goals
    go_wp2
  all_goals
    refine bodyPost_ret (results_ct rfl _ _ (w.heap.size + 1) 33 #[.int .i64 0, .int .i64 n1, .int .i64 n2, .int .i64 n3, .slice none 0 0, .int .i64 0, .bool false, .bool false] (0, 0) _ rfl ?_ Try.underlying33 rfl (by kernel_rfl)) rfl ?_
  all_goals first
    | ((apply bs_eq; (case h => (repeat (first | (with_reducible assumption) | (with_reducible apply bs_same) | (with_reducible apply bs_far; case hp => (dsimp only; omega)) | (with_reducible apply bs_drew) | (with_reducible apply bs_drewN) | (with_reducible apply bs_new; (first | (with_reducible rfl) | (simp; done))) | (with_reducible apply bs_alloc) | (with_reducible apply bs_below; (case hb => with_reducible assumption); (case hB => first | omega | (simp; omega) | (simp; done)))))); (case e => rfl)); done)
    | (refine ⟨_, rfl, Or.inr ⟨5, wrap32 b, ps, _, .slice A0 n c0, rfl, ?_, rfl, ?_, ?_⟩, by (repeat (first | (with_reducible assumption) | with_reducible exact be_refl _ | (with_reducible refine be_set ?_ (by dsimp only; omega)) | (with_reducible apply be_drew) | (with_reducible apply be_drewN) | (with_reducible refine be_alloc ?_ (by first | omega | (simp; omega) | simp)) | (with_reducible refine be_call (by with_reducible assumption) (by first | omega | (simp; omega) | simp) ?_)))⟩
       · first | omega | (simp; omega)
       · (repeat (first | (with_reducible assumption) | (with_reducible apply bs_same) | (with_reducible apply bs_far; case hp => (dsimp only; omega)) | (with_reducible apply bs_drew) | (with_reducible apply bs_drewN) | (with_reducible apply bs_new; (first | (with_reducible rfl) | (simp; done))) | (with_reducible apply bs_alloc) | (with_reducible apply bs_below; (case hb => with_reducible assumption); (case hB => first | omega | (simp; omega) | (simp; done)))))
       · refine Kd.R_mono (Kd.R_lower (base' := w.heap.size) (base := w.heap.size + 2) (ok := fun k => w.heap.size + 2 ≤ k ∧ k < w3.heap.size) ?_ (by omega)) (fun k hk => ⟨by omega, fun e => by subst e; first | omega | (simp at hk; omega)⟩)
         repeat (first | (with_reducible refine R_set3 ?_ (by dsimp only; omega) _) | (with_reducible refine Kd.R_alloc ?_ _) | (with_reducible refine Kd.R_below ?_ hb8) | (with_reducible refine Kd.R_drew ?_))
         exact K3.out)
set_option maxHeartbeats 4000000 in
set_option maxRecDepth 100000 in
theorem last_n_ft (b : Int) (hs : PS w A n ps) (h1 : num = -1) (h2 : ps.length = 0) : Calls Try.prog 31 #[.agg #[.int .i64 m, .int .i64 n1, .int .i64 n2, .int .i64 n3, .slice A n c, .int .i64 num, .bool false, .bool true], .int .u8 b] w fun e w' => ∃ v8 : Value, e = .returned (.tuple #[.agg #[.int .i64 0, .int .i64 n1, .int .i64 n2, .int .i64 n3, .slice none 0 0, .int .i64 0, .bool false, .bool false], v8]) ∧ ActR w' w.heap.size v8 (lastA ps num false true b) ∧ Below w.heap.size w w' := by
  have q1 : (num != -1) = false := by simp [h1]
  have q2 : ((0 : Int) < (n : Int)) = False := eq_false (by have := hs.1; omega)
  have q3 : (0 < n) = False := eq_false (by have := hs.1; omega)
  have HP := hide (show lastP ps num = ps by unfold lastP; rw [if_pos (by omega)])
  rw [show lastA ps num false true b = [] from rfl]
  obtain ⟨hn, hl, hC⟩ := hs
  have CV := fun W hb => hide (clone_val W A n c ps hn (C_at hC hb) (by omega))
  have TV := fun W => hide (to_val m n1 n2 n3 A n c num false true 0 W)
  have CT := fun W (hb : Below w.heap.size w W) => hide (told_val W m n1 n2 n3 A n c num false true ps hn (C_at hC hb) (by omega))
  have HN := hide hn
  have HL := hide hl
  clear hn hl hC h1 h2
  go_enter Try.func31, Try.ntmps31
  go_upto_region 2 with (go_at_call 17; with_reducible refine (CV _ (be_alloc (be_alloc (be_refl _) (Nat.le_refl _)) (by simp))).out.mono ?_; rintro e w7 ⟨v0, rfl, hR, hb7⟩; obtain ⟨A0, c0, hv0⟩ := Kd.R_slice hR; rw [HN.out] at hv0; subst hv0; obtain ⟨hc7, hf7⟩ := be_cells hb7; have hz7 := hb7.size; simp at hz7)
  refine wp_letter (Mid w #[.int .i64 m, .int .i64 n1, .int .i64 n2, .int .i64 n3, .slice A n c, .int .i64 num, .bool false, .bool true] 4 b w7.heap.size (.slice A0 n c0) ps) ⟨?_, ?_, ?_, by omega, ?_, ?_⟩ ?_
  · (repeat (first | (with_reducible assumption) | (with_reducible apply bs_same) | (with_reducible apply bs_far; case hp => (dsimp only; omega)) | (with_reducible apply bs_drew) | (with_reducible apply bs_drewN) | (with_reducible apply bs_new; (first | (with_reducible rfl) | (simp; done))) | (with_reducible apply bs_alloc) | (with_reducible apply bs_below; (case hb => with_reducible assumption); (case hB => first | omega | (simp; omega) | (simp; done)))))
  · (repeat (first | (with_reducible assumption) | (with_reducible apply bs_same) | (with_reducible apply bs_far; case hp => (dsimp only; omega)) | (with_reducible apply bs_drew) | (with_reducible apply bs_drewN) | (with_reducible apply bs_new; (first | (with_reducible rfl) | (simp; done))) | (with_reducible apply bs_alloc) | (with_reducible apply bs_below; (case hb => with_reducible assumption); (case hB => first | omega | (simp; omega) | (simp; done)))))
  · (repeat (first | (with_reducible assumption) | (with_reducible apply bs_same) | (with_reducible apply bs_far; case hp => (dsimp only; omega)) | (with_reducible apply bs_drew) | (with_reducible apply bs_drewN) | (with_reducible apply bs_new; (first | (with_reducible rfl) | (simp; done))) | (with_reducible apply bs_alloc) | (with_reducible apply bs_below; (case hb => with_reducible assumption); (case hB => first | omega | (simp; omega) | (simp; done)))))
  · exact Kd.R_alloc (Kd.R_mono (Kd.R_bound (Kd.R_lower (base' := w.heap.size + 2) (R_base hR) (by simp))) (fun k hk => ⟨hk.2.1, by have := hk.2.2.1; omega⟩)) _
  · (repeat (first | (with_reducible assumption) | with_reducible exact be_refl _ | (with_reducible refine be_set ?_ (by dsimp only; omega)) | (with_reducible apply be_drew) | (with_reducible apply be_drewN) | (with_reducible refine be_alloc ?_ (by first | omega | (simp; omega) | simp)) | (with_reducible refine be_call (by with_reducible assumption) (by first | omega | (simp; omega) | simp) ?_)))
  obtain ⟨g, hg⟩ : ∃ g, g = w7.heap.size := ⟨_, rfl⟩
  rw [← hg]
  clear hg hR hb7 hc7 hf7 hz7 CV
  intro w2 hP
  obtain ⟨k0, k1, k2, hg2, kR, kB⟩ := hP
  have KR := hide kR
  have s0 := bs_lt k0
  have s1 := bs_lt k1
  have s2 := bs_lt k2
  obtain ⟨x0, x1, x2, x3, x4, x5, x6, x7, f0⟩ := cells8 k0
  obtain ⟨y0, y1, y2, y3, y4, y5, y6, y7, f1⟩ := cells8 k1
  obtain ⟨z0, z1, z2, f2⟩ := cells3 k2
  clear kR
  have g0 : g ≠ w.heap.size := by omega
  have g1 : g ≠ w.heap.size + 1 := by omega
  have g2 : w.heap.size + 1 ≠ g := by omega
  have g3 : w.heap.size ≠ g := by omega
  go_wp2_with (first | (go_at_call 27; with_reducible refine (TV _).out.mono ?_; rintro e w8 ⟨rfl, hb8⟩; have hz8 := hb8.size; (try simp at hz8); obtain ⟨hc8, hf8⟩ := be_cells hb8; have u0 : w.heap.size < w8.heap.size := (by omega); have u1 : w.heap.size + 1 < w8.heap.size := (by omega)) | go_in)
  refine bodyPost_ret (results_ct rfl _ _ (w.heap.size + 1) 33 #[.int .i64 0, .int .i64 n1, .int .i64 n2, .int .i64 n3, .slice none 0 0, .int .i64 0, .bool false, .bool false] (0, 0) _ rfl ?_ Try.underlying33 rfl (by kernel_rfl)) rfl ?_
  · (apply bs_eq; (case h => (repeat (first | (with_reducible assumption) | (with_reducible apply bs_same) | (with_reducible apply bs_far; case hp => (dsimp only; omega)) | (with_reducible apply bs_drew) | (with_reducible apply bs_drewN) | (with_reducible apply bs_new; (first | (with_reducible rfl) | (simp; done))) | (with_reducible apply bs_alloc) | (with_reducible apply bs_below; (case hb => with_reducible assumption); (case hB => first | omega | (simp; omega) | (simp; done)))))); (case e => rfl))
  · exact ⟨_, rfl, .nil _ _, by (repeat (first | (with_reducible assumption) | with_reducible exact be_refl _ | (with_reducible refine be_set ?_ (by dsimp only; omega)) | (with_reducible apply be_drew) | (with_reducible apply be_drewN) | (with_reducible refine be_alloc ?_ (by first | omega | (simp; omega) | simp)) | (with_reducible refine be_call (by with_reducible assumption) (by first | omega | (simp; omega) | simp) ?_)))⟩
set_option maxHeartbeats 4000000 in
set_option maxRecDepth 100000 in
theorem last_n_ff (b : Int) (hs : PS w A n ps) (h1 : num = -1) (h2 : ps.length = 0) : Calls Try.prog 31 #[.agg #[.int .i64 m, .int .i64 n1, .int .i64 n2, .int .i64 n3, .slice A n c, .int .i64 num, .bool false, .bool false], .int .u8 b] w fun e w' => ∃ v8 : Value, e = .returned (.tuple #[.agg #[.int .i64 0, .int .i64 n1, .int .i64 n2, .int .i64 n3, .slice none 0 0, .int .i64 0, .bool false, .bool false], v8]) ∧ ActR w' w.heap.size v8 (lastA ps num false false b) ∧ Below w.heap.size w w' := by
  have q1 : (num != -1) = false := by simp [h1]
  have q2 : ((0 : Int) < (n : Int)) = False := eq_false (by have := hs.1; omega)
  have q3 : (0 < n) = False := eq_false (by have := hs.1; omega)
  have HP := hide (show lastP ps num = ps by unfold lastP; rw [if_pos (by omega)])
  rw [show lastA ps num false false b = [(4, wrap32 b, lastP ps num)] from rfl, HP.out]
  obtain ⟨hn, hl, hC⟩ := hs
  have CV := fun W hb => hide (clone_val W A n c ps hn (C_at hC hb) (by omega))
  have TV := fun W => hide (to_val m n1 n2 n3 A n c num false false 0 W)
  have CT := fun W (hb : Below w.heap.size w W) => hide (told_val W m n1 n2 n3 A n c num false false ps hn (C_at hC hb) (by omega))
  have HN := hide hn
  have HL := hide hl
  clear hn hl hC h1 h2
  go_enter Try.func31, Try.ntmps31
  go_upto_region 2 with (go_at_call 17; with_reducible refine (CV _ (be_alloc (be_alloc (be_refl _) (Nat.le_refl _)) (by simp))).out.mono ?_; rintro e w7 ⟨v0, rfl, hR, hb7⟩; obtain ⟨A0, c0, hv0⟩ := Kd.R_slice hR; rw [HN.out] at hv0; subst hv0; obtain ⟨hc7, hf7⟩ := be_cells hb7; have hz7 := hb7.size; simp at hz7)
  refine wp_letter (Mid w #[.int .i64 m, .int .i64 n1, .int .i64 n2, .int .i64 n3, .slice A n c, .int .i64 num, .bool false, .bool false] 4 b w7.heap.size (.slice A0 n c0) ps) ⟨?_, ?_, ?_, by omega, ?_, ?_⟩ ?_
  · (repeat (first | (with_reducible assumption) | (with_reducible apply bs_same) | (with_reducible apply bs_far; case hp => (dsimp only; omega)) | (with_reducible apply bs_drew) | (with_reducible apply bs_drewN) | (with_reducible apply bs_new; (first | (with_reducible rfl) | (simp; done))) | (with_reducible apply bs_alloc) | (with_reducible apply bs_below; (case hb => with_reducible assumption); (case hB => first | omega | (simp; omega) | (simp; done)))))
  · (repeat (first | (with_reducible assumption) | (with_reducible apply bs_same) | (with_reducible apply bs_far; case hp => (dsimp only; omega)) | (with_reducible apply bs_drew) | (with_reducible apply bs_drewN) | (with_reducible apply bs_new; (first | (with_reducible rfl) | (simp; done))) | (with_reducible apply bs_alloc) | (with_reducible apply bs_below; (case hb => with_reducible assumption); (case hB => first | omega | (simp; omega) | (simp; done)))))
  · (repeat (first | (with_reducible assumption) | (with_reducible apply bs_same) | (with_reducible apply bs_far; case hp => (dsimp only; omega)) | (with_reducible apply bs_drew) | (with_reducible apply bs_drewN) | (with_reducible apply bs_new; (first | (with_reducible rfl) | (simp; done))) | (with_reducible apply bs_alloc) | (with_reducible apply bs_below; (case hb => with_reducible assumption); (case hB => first | omega | (simp; omega) | (simp; done)))))
  · exact Kd.R_alloc (Kd.R_mono (Kd.R_bound (Kd.R_lower (base' := w.heap.size + 2) (R_base hR) (by simp))) (fun k hk => ⟨hk.2.1, by have := hk.2.2.1; omega⟩)) _
  · (repeat (first | (with_reducible assumption) | with_reducible exact be_refl _ | (with_reducible refine be_set ?_ (by dsimp only; omega)) | (with_reducible apply be_drew) | (with_reducible apply be_drewN) | (with_reducible refine be_alloc ?_ (by first | omega | (simp; omega) | simp)) | (with_reducible refine be_call (by with_reducible assumption) (by first | omega | (simp; omega) | simp) ?_)))
  obtain ⟨g, hg⟩ : ∃ g, g = w7.heap.size := ⟨_, rfl⟩
  rw [← hg]
  clear hg hR hb7 hc7 hf7 hz7 CV
  intro w2 hP
  obtain ⟨k0, k1, k2, hg2, kR, kB⟩ := hP
  have KR := hide kR
  have s0 := bs_lt k0
  have s1 := bs_lt k1
  have s2 := bs_lt k2
  obtain ⟨x0, x1, x2, x3, x4, x5, x6, x7, f0⟩ := cells8 k0
  obtain ⟨y0, y1, y2, y3, y4, y5, y6, y7, f1⟩ := cells8 k1
  obtain ⟨z0, z1, z2, f2⟩ := cells3 k2
  clear kR
  have g0 : g ≠ w.heap.size := by omega
  have g1 : g ≠ w.heap.size + 1 := by omega
  have g2 : w.heap.size + 1 ≠ g := by omega
  have g3 : w.heap.size ≠ g := by omega
  go_upto_region 8 with (first | fail | go_in)
  refine wp_letter (Mid w #[.int .i64 m, .int .i64 n1, .int .i64 n2, .int .i64 n3, .slice A n c, .int .i64 num, .bool false, .bool false] 4 b g (.slice A0 n c0) ps) ⟨?_, ?_, ?_, hg2, ?_, ?_⟩ ?_
  · (repeat (first | (with_reducible assumption) | (with_reducible apply bs_same) | (with_reducible apply bs_far; case hp => (dsimp only; omega)) | (with_reducible apply bs_drew) | (with_reducible apply bs_drewN) | (with_reducible apply bs_new; (first | (with_reducible rfl) | (simp; done))) | (with_reducible apply bs_alloc) | (with_reducible apply bs_below; (case hb => with_reducible assumption); (case hB => first | omega | (simp; omega) | (simp; done)))))
  · (repeat (first | (with_reducible assumption) | (with_reducible apply bs_same) | (with_reducible apply bs_far; case hp => (dsimp only; omega)) | (with_reducible apply bs_drew) | (with_reducible apply bs_drewN) | (with_reducible apply bs_new; (first | (with_reducible rfl) | (simp; done))) | (with_reducible apply bs_alloc) | (with_reducible apply bs_below; (case hb => with_reducible assumption); (case hB => first | omega | (simp; omega) | (simp; done)))))
  · (apply bs_eq; (case h => (repeat (first | (with_reducible assumption) | (with_reducible apply bs_same) | (with_reducible apply bs_far; case hp => (dsimp only; omega)) | (with_reducible apply bs_drew) | (with_reducible apply bs_drewN) | (with_reducible apply bs_new; (first | (with_reducible rfl) | (simp; done))) | (with_reducible apply bs_alloc) | (with_reducible apply bs_below; (case hb => with_reducible assumption); (case hB => first | omega | (simp; omega) | (simp; done)))))); (case e => rfl))
  · repeat (with_reducible refine R_set2 ?_ (by dsimp only; omega) _)
    exact KR.out
  · (repeat (first | (with_reducible assumption) | with_reducible exact be_refl _ | (with_reducible refine be_set ?_ (by dsimp only; omega)) | (with_reducible apply be_drew) | (with_reducible apply be_drewN) | (with_reducible refine be_alloc ?_ (by first | omega | (simp; omega) | simp)) | (with_reducible refine be_call (by with_reducible assumption) (by first | omega | (simp; omega) | simp) ?_)))
  clear k0 k1 k2 kB KR s0 s1 s2 x0 x1 x2 x3 x4 x5 x6 x7 y0 y1 y2 y3 y4 y5 y6 y7 z0 z1 z2 f0 f1 f2
  intro w3 hP3
  obtain ⟨k0, k1, k2, _, kR, kB⟩ := hP3
  have KR := hide kR
  have s0 := bs_lt k0
  have s1 := bs_lt k1
  have s2 := bs_lt k2
  obtain ⟨x0, x1, x2, x3, x4, x5, x6, x7, f0⟩ := cells8 k0
  obtain ⟨y0, y1, y2, y3, y4, y5, y6, y7, f1⟩ := cells8 k1
  obtain ⟨z0, z1, z2, f2⟩ := cells3 k2
  clear kR
  have K3 := hide (show Kd.R (Kd.int .i64) 3 w3 (w.heap.size + 2) (fun k => w.heap.size + 2 ≤ k ∧ k < w3.heap.size) (.slice A0 n c0) ps from Kd.R_mono (Kd.R_bound KR.out) (fun k hk => ⟨hk.2.1, hk.2.2.1⟩))
  (first | (go_region_held3 (fun w' => w'.cell? ⟨w.heap.size, 0, none⟩ = some (.int .i64 m) ∧ w'.cell? ⟨w.heap.size, 1, none⟩ = some (.int .i64 n1) ∧ w'.cell? ⟨w.heap.size, 2, none⟩ = some (.int .i64 n2) ∧ w'.cell? ⟨w.heap.size, 3, none⟩ = some (.int .i64 n3) ∧ w'.cell? ⟨w.heap.size, 4, none⟩ = some (.slice A n c) ∧ w'.cell? ⟨w.heap.size, 5, none⟩ = some (.int .i64 num) ∧ w'.cell? ⟨w.heap.size, 6, none⟩ = some (.bool false) ∧ w'.cell? ⟨w.heap.size, 7, none⟩ = some (.bool false) ∧ w'.cell? ⟨g, 0, none⟩ = some (.int .i64 4) ∧ w'.cell? ⟨g, 1, none⟩ = some (.int .i32 (wrap32 b)) ∧ w'.cell? ⟨g, 2, none⟩ = some (.slice A0 n c0)) ((first | go_keep | (simp [*]; done))) ((go_at_call 27; with_reducible refine (TV _).out.mono ?_; rintro e w8 ⟨rfl, hb8⟩; obtain ⟨hk, hfk⟩ := be_known hb8; have hz8 := hb8.size; (try simp at hz8)))) | fail "region")
  all_goals
    go_wp2
  all_goals
    refine bodyPost_ret (results_ct rfl _ _ (w.heap.size + 1) 33 #[.int .i64 0, .int .i64 n1, .int .i64 n2, .int .i64 n3, .slice none 0 0, .int .i64 0, .bool false, .bool false] (0, 0) _ rfl ?_ Try.underlying33 rfl (by kernel_rfl)) rfl ?_
  all_goals first
    | ((apply bs_eq; (case h => (repeat (first | (with_reducible assumption) | (with_reducible apply bs_same) | (with_reducible apply bs_far; case hp => (dsimp only; omega)) | (with_reducible apply bs_drew) | (with_reducible apply bs_drewN) | (with_reducible apply bs_new; (first | (with_reducible rfl) | (simp; done))) | (with_reducible apply bs_alloc) | (with_reducible apply bs_below; (case hb => with_reducible assumption); (case hB => first | omega | (simp; omega) | (simp; done)))))); (case e => rfl)); done)
    | (refine ⟨_, rfl, Or.inr ⟨4, wrap32 b, ps, _, .slice A0 n c0, rfl, ?_, rfl, ?_, ?_⟩, by (repeat (first | (with_reducible assumption) | with_reducible exact be_refl _ | (with_reducible refine be_set ?_ (by dsimp only; omega)) | (with_reducible apply be_drew) | (with_reducible apply be_drewN) | (with_reducible refine be_alloc ?_ (by first | omega | (simp; omega) | simp)) | (with_reducible refine be_call (by with_reducible assumption) (by first | omega | (simp; omega) | simp) ?_)))⟩
       · first | omega | (simp; omega)
       · (repeat (first | (with_reducible assumption) | (with_reducible apply bs_same) | (with_reducible apply bs_far; case hp => (dsimp only; omega)) | (with_reducible apply bs_drew) | (with_reducible apply bs_drewN) | (with_reducible apply bs_new; (first | (with_reducible rfl) | (simp; done))) | (with_reducible apply bs_alloc) | (with_reducible apply bs_below; (case hb => with_reducible assumption); (case hB => first | omega | (simp; omega) | (simp; done)))))
       · refine Kd.R_mono (Kd.R_lower (base' := w.heap.size) (base := w.heap.size + 2) (ok := fun k => w.heap.size + 2 ≤ k ∧ k < w3.heap.size) ?_ (by omega)) (fun k hk => ⟨by omega, fun e => by subst e; first | omega | (simp at hk; omega)⟩)
         repeat (first | (with_reducible refine R_set3 ?_ (by dsimp only; omega) _) | (with_reducible refine Kd.R_alloc ?_ _) | (with_reducible refine Kd.R_below ?_ hb8) | (with_reducible refine Kd.R_drew ?_))
         exact K3.out)
end
end Go.Proofs.Ytiahfgcfgpakiaa.EscaVal


