/- What the functions of the package esca hand back, way by way: contracts, each for every escape that is begun and every byte of its kind. -/
import Derived.Test.YtiahfgcfgpakiaaProg
import Derived.StillTailTactics
import Derived.Test.YtiahfgcfgpakiaaMem
import Derived.Test.YtiahfgcfgpakiaaWWords
import Derived.Test.YtiahfgcfgpakiaaWLast
import Derived.Test.YtiahfgcfgpakiaaWApart
import Derived.Test.YtiahfgcfgpakiaaWShare
import Derived.Test.YtiahfgcfgpakiaaWMore
import Derived.Test.YtiahfgcfgpakiaaWKept
import Derived.Deep.RegionHeld
import Derived.Deep.RegionHeld3
import Derived.Lib.SliceRun
namespace Go.Proofs.Ytiahfgcfgpakiaa.EscaVal
open Go Go.RowKit Go.Proofs.YtiahfgcfgpakiaaKit Go.Proofs.Ytiahfgcfgpakiaa.Mem Go.Proofs.YtiahfgcfgpakiaaW.PrintWords Go.Proofs.YtiahfgcfgpakiaaW.PrintLast
set_option linter.unusedVariables false
set_option linter.unusedSimpArgs false
/-- A row of numbers that is read. -/
theorem rd_of_C {w : World} {A : Option Addr} {n : Nat} {xs : List Int} (h : Kd.C (Kd.int .i64) w A n xs) : Rd w 0 A (xs.map (.int .i64)) := fun j v hv => by
  have hreads := Kd.reads_of_C (enc := Value.int .i64) (d := (0 : Int)) (h1 := fun _ => rfl) h
  rw [List.getElem?_map] at hv
  cases hj : xs[j]? with
  | none => rw [hj] at hv; cases hv
  | some z =>
    rw [hj] at hv
    have hlt := (List.getElem?_eq_some_iff.1 hj).1
    obtain ⟨ad, h1, h2⟩ := hreads.2.2 (by have := hreads.1; omega)
    have h3 := h2 j (by have := hreads.1; omega)
    have h4 : xs.getD j 0 = z := by rw [List.getD_eq_getElem?_getD, hj]; rfl
    rw [h4] at h3
    exact ⟨ad, h1, Nat.zero_le _, h3.trans hv⟩
/-- One action at most, in a row of its own. -/
def ActR (W : World) (base : Nat) (v : Value) (l : List (Int × Int × List Int)) : Prop :=
  (l = [] ∧ v = .slice none 0 0) ∨ ∃ (k r : Int) (ps : List Int) (g : Nat) (u : Value), l = [(k, r, ps)] ∧ base ≤ g ∧ v = .slice (some ⟨g, 0, none⟩) 1 1 ∧ W.heap[g]? = some (.cells #[.int .i64 k, .int .i32 r, u] 24 (0, 0)) ∧ Kd.R (Kd.int .i64) 3 W base (fun j => base ≤ j ∧ j ≠ g) u ps
theorem ActR.below {W W' : World} {base : Nat} {v : Value} {l : List (Int × Int × List Int)} (h : ActR W base v l) (hb : Below W.heap.size W W') : ActR W' base v l := by
  rcases h with h | ⟨k, r, ps, g, u, h1, h2, h3, h4, h5⟩
  · exact .inl h
  · exact .inr ⟨k, r, ps, g, u, h1, h2, h3, bs_below hb (bs_lt h4) h4, Kd.R_below h5 hb⟩
theorem ActR.lower {W : World} {base base' : Nat} {v : Value} {l : List (Int × Int × List Int)} (h : ActR W base v l) (hb : base' ≤ base) : ActR W base' v l := by
  rcases h with h | ⟨k, r, ps, g, u, h1, h2, h3, h4, h5⟩
  · exact .inl h
  · exact .inr ⟨k, r, ps, g, u, h1, Nat.le_trans hb h2, h3, h4, Kd.R_mono (Kd.R_lower h5 hb) (fun j hj => ⟨Nat.le_trans hb hj.1, hj.2⟩)⟩
theorem ActR.own {W : World} {base : Nat} {v : Value} {l : List (Int × Int × List Int)} (h : ActR W base v l) : ∀ k, v.ownBlock = some k → base ≤ k := by
  intro k hk
  rcases h with ⟨_, rfl⟩ | ⟨_, _, _, g, u, _, h2, rfl, _⟩
  · simp [Value.ownBlock] at hk
  · have : g = k := by simpa [Value.ownBlock] using hk
    omega
theorem ActR.set {W : World} {base : Nat} {v : Value} {l : List (Int × Int × List Int)} {p : Addr} (h : ActR W base v l) (hp : p.block < base) (x : Value) : ActR (W.setCell p x) base v l := by
  rcases h with h | ⟨k, r, ps, g, u, h1, h2, h3, h4, h5⟩
  · exact .inl h
  · exact .inr ⟨k, r, ps, g, u, h1, h2, h3, bs_far h4 (by omega), Kd.R_far h5 (fun j hj => by omega) x⟩
theorem ActR.nil (W : World) (base : Nat) : ActR W base (.slice none 0 0) [] := .inl ⟨rfl, rfl⟩
/-- The parameters at a later world, beside whatever is new. -/
theorem par_old {w W : World} {P : Nat → Prop} {v v8 : Value} {xs : List Int} (h : Kd.V (Kd.int .i64) 3 w w.heap.size P v xs) (hb : Below w.heap.size w W) {base : Nat} (h8 : ∀ k, v8.ownBlock = some k → w.heap.size ≤ k) :
    Kd.V (Kd.int .i64) 3 W base (fun k => P k ∧ some k ≠ v8.ownBlock) v xs := by
  obtain ⟨A, c, h1, h2, h3⟩ := h
  exact ⟨A, c, h1, h2, Kd.F_mono (Kd.F_step (Kd.F_bound h3) (fun k _ hk => hb.block k hk)) (fun k hk => ⟨hk.1, fun e => by have := h8 k e.symm; omega⟩)⟩
theorem V_C {w : World} {P : Nat → Prop} {A : Option Addr} {n c base : Nat} {xs : List Int} (h : Kd.V (Kd.int .i64) 3 w base P (.slice A n c) xs) : Kd.C (Kd.int .i64) w A xs.length xs ∧ xs.length = n := by
  obtain ⟨h1, _, h2⟩ := Kd.V_reads' h
  exact ⟨h2, h1.symm⟩
/-- What a byte leads to. -/
def Out (w : World) (P : Nat → Prop) (m n1 n2 n3 : Int) (ps : List Int) (num : Int) (q r : Bool) (l : List (Int × Int × List Int)) (e : Ending) (w' : World) : Prop :=
  ∃ v4 v8 : Value, e = .returned (.tuple #[.agg #[.int .i64 m, .int .i64 n1, .int .i64 n2, .int .i64 n3, v4, .int .i64 num, .bool q, .bool r], v8]) ∧ Kd.V (Kd.int .i64) 3 w' w.heap.size (fun k => (P k ∨ w.heap.size ≤ k) ∧ some k ≠ v8.ownBlock) v4 ps ∧ ActR w' w.heap.size v8 l ∧ Below w.heap.size w w'
theorem none_own (k : Nat) : (some k ≠ (Value.slice none 0 0).ownBlock) := by simp [Value.ownBlock]
/-- Nothing is asked, nothing is told. -/
theorem Out.nil {w W : World} {P : Nat → Prop} {m n1 n2 n3 num : Int} {q r : Bool} (hb : Below w.heap.size w W) :
    Out w P m n1 n2 n3 [] num q r [] (.returned (.tuple #[.agg #[.int .i64 m, .int .i64 n1, .int .i64 n2, .int .i64 n3, .slice none 0 0, .int .i64 num, .bool q, .bool r], .slice none 0 0])) W :=
  ⟨_, _, rfl, Kd.V_nil _ _ _ _ _, .nil _ _, hb⟩
/-- Nothing is asked; the parameters stay. -/
theorem Out.stay {w W : World} {P : Nat → Prop} {m n1 n2 n3 num : Int} {q r : Bool} {v : Value} {ps : List Int} (h : Kd.V (Kd.int .i64) 3 w w.heap.size P v ps) (hb : Below w.heap.size w W) :
    Out w P m n1 n2 n3 ps num q r [] (.returned (.tuple #[.agg #[.int .i64 m, .int .i64 n1, .int .i64 n2, .int .i64 n3, v, .int .i64 num, .bool q, .bool r], .slice none 0 0])) W :=
  ⟨_, _, rfl, Kd.V_mono (par_old (v8 := .slice none 0 0) h hb (fun k hk => by simp [Value.ownBlock] at hk)) (fun k hk => ⟨.inl hk.1, hk.2⟩), .nil _ _, hb⟩

section
variable (m n1 n2 n3 : Int) (A : Option Addr) (n c : Nat) (num : Int) (q r : Bool)
theorem to_val (x : Int) (w : World) : Calls Try.prog 27 #[.agg #[.int .i64 m, .int .i64 n1, .int .i64 n2, .int .i64 n3, .slice A n c, .int .i64 num, .bool q, .bool r], .int .i64 x] w fun e w' => e = .returned (.agg #[.int .i64 x, .int .i64 n1, .int .i64 n2, .int .i64 n3, .slice none 0 0, .int .i64 0, .bool false, .bool false]) ∧ Below w.heap.size w w' := by
  go_enter Try.func27, Try.ntmps27
  go_wp2
  refine bodyPost_ret (results_cell_row rfl _ _ (w.heap.size + 1) 33 #[.int .i64 x, .int .i64 n1, .int .i64 n2, .int .i64 n3, .slice none 0 0, .int .i64 0, .bool false, .bool false] (0, 0) _ rfl ?_ Try.underlying33 rfl (by kernel_rfl)) rfl ?_
  · (apply bs_eq; (case h => (repeat (first | (with_reducible assumption) | (with_reducible apply bs_same) | (with_reducible apply bs_far; case hp => (dsimp only; omega)) | (with_reducible apply bs_drew) | (with_reducible apply bs_drewN) | (with_reducible apply bs_new; (first | (with_reducible rfl) | (simp; done))) | (with_reducible apply bs_alloc) | (with_reducible apply bs_below; (case hb => with_reducible assumption); (case hB => first | omega | (simp; omega) | (simp; done)))))); (case e => rfl))
  · exact ⟨rfl, by (repeat (first | (with_reducible assumption) | with_reducible exact be_refl _ | (with_reducible refine be_set ?_ (by dsimp only; omega)) | (with_reducible apply be_drew) | (with_reducible apply be_drewN) | (with_reducible refine be_alloc ?_ (by first | omega | (simp; omega) | simp)) | (with_reducible refine be_call (by with_reducible assumption) (by first | omega | (simp; omega) | simp) ?_)))⟩
theorem within_val (b lo hi : Int) (t : Bool) (ht : (decide (lo ≤ b) && decide (b ≤ hi)) = t) (w : World) : Calls Try.prog 28 #[.int .u8 b, .int .u8 lo, .int .u8 hi] w fun e w' => e = .returned (.bool t) ∧ w' = w := by
  by_cases h1 : lo ≤ b
  · have e1 : t = decide (b ≤ hi) := by rw [← ht]; simp [h1]
    subst e1
    clear ht
    go_enter Try.func28, Try.ntmps28
    go_wp2
    go_ret
    exact ⟨rfl, rfl⟩
  · have e1 : t = false := by rw [← ht]; simp [h1]
    subst e1
    have p1 : (lo ≤ b) = False := eq_false h1
    clear ht h1
    go_enter Try.func28, Try.ntmps28
    go_wp2
    go_ret
    exact ⟨rfl, rfl⟩
theorem leave_esc (w : World) : Calls Try.prog 26 #[.agg #[.int .i64 m, .int .i64 n1, .int .i64 n2, .int .i64 n3, .slice A n c, .int .i64 num, .bool q, .bool r], .int .u8 27] w fun e w' => e = .returned (.tuple #[.agg #[.int .i64 1, .int .i64 n1, .int .i64 n2, .int .i64 n3, .slice none 0 0, .int .i64 0, .bool false, .bool false], .bool true]) ∧ Below w.heap.size w w' := by
  have TV := fun W => hide (to_val m n1 n2 n3 A n c num q r 1 W)
  go_enter Try.func26, Try.ntmps26
  go_wp2_with (go_at_call 27; with_reducible refine (TV _).out.mono ?_; rintro e w9 ⟨rfl, hb9⟩; have hz9 := hb9.size; simp at hz9; obtain ⟨hc9, hf9⟩ := be_cells hb9; have z9 : w.heap.size < w9.heap.size := (by omega); have y9 : w.heap.size + 1 < w9.heap.size := (by omega))
  refine bodyPost_ret (results_ct rfl _ _ (w.heap.size + 1) 33 #[.int .i64 1, .int .i64 n1, .int .i64 n2, .int .i64 n3, .slice none 0 0, .int .i64 0, .bool false, .bool false] (0, 0) _ rfl ?_ Try.underlying33 rfl (by kernel_rfl)) rfl ?_
  · (apply bs_eq; (case h => (repeat (first | (with_reducible assumption) | (with_reducible apply bs_same) | (with_reducible apply bs_far; case hp => (dsimp only; omega)) | (with_reducible apply bs_drew) | (with_reducible apply bs_drewN) | (with_reducible apply bs_new; (first | (with_reducible rfl) | (simp; done))) | (with_reducible apply bs_alloc) | (with_reducible apply bs_below; (case hb => with_reducible assumption); (case hB => first | omega | (simp; omega) | (simp; done)))))); (case e => rfl))
  · exact ⟨rfl, by (repeat (first | (with_reducible assumption) | with_reducible exact be_refl _ | (with_reducible refine be_set ?_ (by dsimp only; omega)) | (with_reducible apply be_drew) | (with_reducible apply be_drewN) | (with_reducible refine be_alloc ?_ (by first | omega | (simp; omega) | simp)) | (with_reducible refine be_call (by with_reducible assumption) (by first | omega | (simp; omega) | simp) ?_)))⟩
theorem leave_can (w : World) : Calls Try.prog 26 #[.agg #[.int .i64 m, .int .i64 n1, .int .i64 n2, .int .i64 n3, .slice A n c, .int .i64 num, .bool q, .bool r], .int .u8 24] w fun e w' => e = .returned (.tuple #[.agg #[.int .i64 0, .int .i64 n1, .int .i64 n2, .int .i64 n3, .slice none 0 0, .int .i64 0, .bool false, .bool false], .bool true]) ∧ Below w.heap.size w w' := by
  have TV := fun W => hide (to_val m n1 n2 n3 A n c num q r 0 W)
  go_enter Try.func26, Try.ntmps26
  go_wp2_with (go_at_call 27; with_reducible refine (TV _).out.mono ?_; rintro e w9 ⟨rfl, hb9⟩; have hz9 := hb9.size; simp at hz9; obtain ⟨hc9, hf9⟩ := be_cells hb9; have z9 : w.heap.size < w9.heap.size := (by omega); have y9 : w.heap.size + 1 < w9.heap.size := (by omega))
  refine bodyPost_ret (results_ct rfl _ _ (w.heap.size + 1) 33 #[.int .i64 0, .int .i64 n1, .int .i64 n2, .int .i64 n3, .slice none 0 0, .int .i64 0, .bool false, .bool false] (0, 0) _ rfl ?_ Try.underlying33 rfl (by kernel_rfl)) rfl ?_
  · (apply bs_eq; (case h => (repeat (first | (with_reducible assumption) | (with_reducible apply bs_same) | (with_reducible apply bs_far; case hp => (dsimp only; omega)) | (with_reducible apply bs_drew) | (with_reducible apply bs_drewN) | (with_reducible apply bs_new; (first | (with_reducible rfl) | (simp; done))) | (with_reducible apply bs_alloc) | (with_reducible apply bs_below; (case hb => with_reducible assumption); (case hB => first | omega | (simp; omega) | (simp; done)))))); (case e => rfl))
  · exact ⟨rfl, by (repeat (first | (with_reducible assumption) | with_reducible exact be_refl _ | (with_reducible refine be_set ?_ (by dsimp only; omega)) | (with_reducible apply be_drew) | (with_reducible apply be_drewN) | (with_reducible refine be_alloc ?_ (by first | omega | (simp; omega) | simp)) | (with_reducible refine be_call (by with_reducible assumption) (by first | omega | (simp; omega) | simp) ?_)))⟩
theorem leave_sub (w : World) : Calls Try.prog 26 #[.agg #[.int .i64 m, .int .i64 n1, .int .i64 n2, .int .i64 n3, .slice A n c, .int .i64 num, .bool q, .bool r], .int .u8 26] w fun e w' => e = .returned (.tuple #[.agg #[.int .i64 0, .int .i64 n1, .int .i64 n2, .int .i64 n3, .slice none 0 0, .int .i64 0, .bool false, .bool false], .bool true]) ∧ Below w.heap.size w w' := by
  have TV := fun W => hide (to_val m n1 n2 n3 A n c num q r 0 W)
  go_enter Try.func26, Try.ntmps26
  go_wp2_with (go_at_call 27; with_reducible refine (TV _).out.mono ?_; rintro e w9 ⟨rfl, hb9⟩; have hz9 := hb9.size; simp at hz9; obtain ⟨hc9, hf9⟩ := be_cells hb9; have z9 : w.heap.size < w9.heap.size := (by omega); have y9 : w.heap.size + 1 < w9.heap.size := (by omega))
  refine bodyPost_ret (results_ct rfl _ _ (w.heap.size + 1) 33 #[.int .i64 0, .int .i64 n1, .int .i64 n2, .int .i64 n3, .slice none 0 0, .int .i64 0, .bool false, .bool false] (0, 0) _ rfl ?_ Try.underlying33 rfl (by kernel_rfl)) rfl ?_
  · (apply bs_eq; (case h => (repeat (first | (with_reducible assumption) | (with_reducible apply bs_same) | (with_reducible apply bs_far; case hp => (dsimp only; omega)) | (with_reducible apply bs_drew) | (with_reducible apply bs_drewN) | (with_reducible apply bs_new; (first | (with_reducible rfl) | (simp; done))) | (with_reducible apply bs_alloc) | (with_reducible apply bs_below; (case hb => with_reducible assumption); (case hB => first | omega | (simp; omega) | (simp; done)))))); (case e => rfl))
  · exact ⟨rfl, by (repeat (first | (with_reducible assumption) | with_reducible exact be_refl _ | (with_reducible refine be_set ?_ (by dsimp only; omega)) | (with_reducible apply be_drew) | (with_reducible apply be_drewN) | (with_reducible refine be_alloc ?_ (by first | omega | (simp; omega) | simp)) | (with_reducible refine be_call (by with_reducible assumption) (by first | omega | (simp; omega) | simp) ?_)))⟩
theorem leave_no (b : Int) (h1 : b ≠ 27) (h2 : b ≠ 24) (h3 : b ≠ 26) (w : World) : Calls Try.prog 26 #[.agg #[.int .i64 m, .int .i64 n1, .int .i64 n2, .int .i64 n3, .slice A n c, .int .i64 num, .bool q, .bool r], .int .u8 b] w fun e w' => e = .returned (.tuple #[.agg #[.int .i64 m, .int .i64 n1, .int .i64 n2, .int .i64 n3, .slice A n c, .int .i64 num, .bool q, .bool r], .bool false]) ∧ Below w.heap.size w w' := by
  have p1 : (b == 27) = false := by simp [h1]
  have p2 : (b == 24) = false := by simp [h2]
  have p3 : (b == 26) = false := by simp [h3]
  clear h1 h2 h3
  go_enter Try.func26, Try.ntmps26
  go_wp2
  refine bodyPost_ret (results_ct rfl _ _ (w.heap.size + 1) 33 #[.int .i64 m, .int .i64 n1, .int .i64 n2, .int .i64 n3, .slice A n c, .int .i64 num, .bool q, .bool r] (0, 0) _ rfl ?_ Try.underlying33 rfl (by kernel_rfl)) rfl ?_
  · (apply bs_eq; (case h => (repeat (first | (with_reducible assumption) | (with_reducible apply bs_same) | (with_reducible apply bs_far; case hp => (dsimp only; omega)) | (with_reducible apply bs_drew) | (with_reducible apply bs_drewN) | (with_reducible apply bs_new; (first | (with_reducible rfl) | (simp; done))) | (with_reducible apply bs_alloc) | (with_reducible apply bs_below; (case hb => with_reducible assumption); (case hB => first | omega | (simp; omega) | (simp; done)))))); (case e => rfl))
  · exact ⟨rfl, by (repeat (first | (with_reducible assumption) | with_reducible exact be_refl _ | (with_reducible refine be_set ?_ (by dsimp only; omega)) | (with_reducible apply be_drew) | (with_reducible apply be_drewN) | (with_reducible refine be_alloc ?_ (by first | omega | (simp; omega) | simp)) | (with_reducible refine be_call (by with_reducible assumption) (by first | omega | (simp; omega) | simp) ?_)))⟩
end
theorem clone_val (w : World) (A : Option Addr) (n c : Nat) (ps : List Int) (hn : ps.length = n) (hC : Kd.C (Kd.int .i64) w A n ps) (hl : n ≤ 1000000) :
    Calls Try.prog 17 #[.slice A n c] w fun e w' => ∃ v0 : Value, e = .returned v0 ∧ Kd.R (Kd.int .i64) 3 w' w.heap.size (fun _ => True) v0 ps ∧ Below w.heap.size w w' := by
  obtain ⟨i0, hi, hz0, hz1, hz2⟩ := info_parts (show (Try.prog.info? 3).map (fun i => (i.zero, i.size, i.bytes)) = some (some (.int .i64 0), 1, 8) by kernel_rfl)
  have HR := hide (rd_of_C hC)
  have HN := hide hn
  have heq := fun (w : World) => Lib.run_eql_slice_nil (P := Try.prog) w 22 3 A n c 0 0 Try.underlying22
  obtain ⟨S0, hS⟩ : ∃ S0, S0 = w.heap.size := ⟨_, rfl⟩
  have HS := hide hS
  rw [← hS]
  clear hC hn hS
  cases A with
  | none =>
    have hc0 : ps = [] := by
      cases ps with
      | nil => rfl
      | cons u us => obtain ⟨a, h, _⟩ := HR.out 0 _ rfl; cases h
    subst hc0
    have hn0 : n = 0 := HN.out.symm
    subst hn0
    go_enter Try.func17, Try.ntmps17
    go_wp2
    go_ret
    exact ⟨_, rfl, Kd.R_nil _ _ _ _ _, by rw [HS.out]; exact be_refl _⟩
  | some ad =>
    go_enter Try.func17, Try.ntmps17
    go_wp2_with (at_builtin; refine wpList_append_rd _ rfl (.tmp 5) (.tmp 6) 22 rfl S0 3 i0 _ 1 8 Try.underlying22 hi hz0 hz1 hz2 rfl (by omega) (some w.heap.size) 0 0 [] rfl (Own.lit (bs_new rfl) (by simp) (by rw [HS.out]; exact Nat.le_refl _) (by unfold maxLen; omega)) (some ad) n c (ps.map (.int .i64)) rfl (by rw [List.length_map, HN.out, Nat.mul_one]) (HR.out.below (be_alloc (be_refl _) (Nat.le_refl _))) (by intro u hu; obtain ⟨z, _, rfl⟩ := List.mem_map.1 hu; rfl) (by unfold maxLen; omega) (by omega) (by rw [HS.out]; simp) ?_; intro lb1 cap1 w1 hO hg hat; have O1 := hide hO; have G1 := hide hg; clear hO hg hat)
    go_ret
    have hO := O1.out
    rw [Nat.zero_add, List.nil_append] at hO
    refine ⟨_, rfl, Kd.R_of_own (by rw [HN.out]; exact hO.owns) (fun _ _ => trivial), ?_⟩
    rw [HS.out]
    exact below_grown (be_alloc (be_refl _) (Nat.le_refl _)) (by simp) G1.out (fun b e => by cases e; exact Nat.le_refl _)
def toldP (ps : List Int) (num : Int) : List Int := if 16 ≤ ps.length then ps else ps ++ [num]
/-- A row of one's own as my words have it. -/
theorem own_of {W : World} {base : Nat} {ok : Nat → Prop} {v : Value} {xs : List Int} (h : Kd.R (Kd.int .i64) 3 W base ok v xs) : ∃ lb cap, v = sl lb xs.length cap ∧ Own W base 3 1 lb xs.length cap (xs.map (.int .i64)) := Own.of (Kd.own_of_R h)
theorem C_at {w W : World} {A : Option Addr} {n : Nat} {ps : List Int} (h : Kd.C (Kd.int .i64) w A n ps) (hb : Below w.heap.size w W) : Kd.C (Kd.int .i64) W A n ps := Kd.C_below h hb

/-- told. -/
theorem told_val (w : World) (m n1 n2 n3 : Int) (A : Option Addr) (n c : Nat) (num : Int) (q r : Bool) (ps : List Int) (hn : ps.length = n) (hC : Kd.C (Kd.int .i64) w A n ps) (hl : n ≤ 1000000) :
    Calls Try.prog 30 #[.agg #[.int .i64 m, .int .i64 n1, .int .i64 n2, .int .i64 n3, .slice A n c, .int .i64 num, .bool q, .bool r]] w fun e w' => ∃ v0 : Value, e = .returned v0 ∧ Kd.R (Kd.int .i64) 3 w' w.heap.size (fun _ => True) v0 (toldP ps num) ∧ Below w.heap.size w w' := by
  obtain ⟨i0, hi, hz0, hz1, hz2⟩ := info_parts (show (Try.prog.info? 3).map (fun i => (i.zero, i.size, i.bytes)) = some (some (.int .i64 0), 1, 8) by kernel_rfl)
  have CV := fun W hb => hide (clone_val W A n c ps hn (C_at hC hb) hl)
  have HN := hide hn
  clear hC hn
  obtain ⟨S0, hS⟩ : ∃ S0, S0 = w.heap.size := ⟨_, rfl⟩
  have HS := hide hS
  rw [← hS]
  clear hS
  by_cases h16 : 16 ≤ n
  · have p1 : ((16 : Int) ≤ (n : Int)) = True := eq_true (by omega)
    have HT := hide (show toldP ps num = ps by unfold toldP; rw [HN.out, if_pos h16])
    rw [HT.out]
    clear h16
    go_enter Try.func30, Try.ntmps30
    go_wp2_with (go_at_call 17; with_reducible refine (CV _ (be_alloc (be_refl _) (Nat.le_refl _))).out.mono ?_; rintro e w1 ⟨v0, rfl, hR, hb⟩; obtain ⟨lb, cap, hv, hO⟩ := own_of hR; rw [HN.out] at hv hO; obtain ⟨x0, hx0⟩ := sl_to lb n cap; have HV := hide (hv.trans hx0); have HRR := hide hR; have HB := hide hb; obtain rfl := HV.out; clear hb hR hO hv)
    go_ret
    refine ⟨_, rfl, Kd.R_lower HRR.out (by rw [HS.out]; simp), ?_⟩
    rw [HS.out]
    have hb := HB.out
    exact (be_alloc (be_refl _) (Nat.le_refl _)).trans (hb.mono (by simp))
  · have p1 : ((16 : Int) ≤ (n : Int)) = False := eq_false (by omega)
    have HT := hide (show toldP ps num = ps ++ [num] by unfold toldP; rw [HN.out, if_neg h16])
    have HL := hide (show n < 16 by omega)
    rw [HT.out]
    clear h16
    go_enter Try.func30, Try.ntmps30
    go_wp2_with (first
      | (go_at_call 17; with_reducible refine (CV _ (be_alloc (be_refl _) (Nat.le_refl _))).out.mono ?_; rintro e w1 ⟨v0, rfl, hR, hb⟩; obtain ⟨lb, cap, hv, hO⟩ := own_of hR; rw [HN.out] at hv hO; obtain ⟨x0, hx0⟩ := sl_to lb n cap; have HX := hide hx0; have HV := hide (hv.trans hx0); have HO := hide hO; have HB := hide hb; obtain rfl := HV.out; have hz := hb.size; simp at hz; obtain ⟨hc, hf⟩ := be_cells hb; have z0 : w.heap.size < w1.heap.size := (by omega); have HZ := hide hz; clear hR hO hv hb hz)
      | (at_builtin; rw [← HX.out]; refine wpList_append_rd _ rfl (.tmp 11) (.tmp 14) 22 rfl (w.heap.size + 1) 3 i0 _ 1 8 Try.underlying22 hi hz0 hz1 hz2 rfl (by omega) lb n cap (ps.map (.int .i64)) rfl ((by have h := HO.out.alloc (.cells #[.int .i64 num] 3); simpa using h)) (some ⟨w1.heap.size, 0, none⟩) 1 1 [.int .i64 num] rfl rfl (fun j u hv => ⟨_, rfl, Nat.zero_le _, by rw [add_head, bs_cell (bs_new rfl)]; cases j with | zero => simpa using hv | succ j => simp at hv⟩) (by intro u hu; simp at hu; subst hu; rfl) (by have := HL.out; unfold maxLen; omega) (by have := HL.out; omega) (by have := HZ.out; simp; omega) ?_; intro lb2 cap2 w2 hO hg hat; have O2 := hide hO; have G2 := hide hg; clear hO hg hat hc hf)
      | go_in)
    go_ret
    have hO := O2.out
    refine ⟨_, rfl, Kd.R_lower (Kd.R_of_own (by have h2 := hO.owns; rw [List.length_append, HN.out]; simpa [encs] using h2) (fun _ _ => trivial)) (by rw [HS.out]; exact Nat.le_succ _), ?_⟩
    rw [HS.out]
    have hb := HB.out
    have h1 : Below w.heap.size w w1 := (be_alloc (be_refl _) (Nat.le_refl _)).trans (hb.mono (by simp))
    exact below_grown (be_alloc h1 h1.size) (by have := h1.size; simp; omega) G2.out (fun b e => by have := (show w.heap.size + 1 ≤ b from by subst e; exact (own_base HO.out).1 |> fun h => by simpa using h); omega)

theorem R_base {w : World} {base : Nat} {ok : Nat → Prop} {v : Value} {xs : List Int} (h : Kd.R (Kd.int .i64) 3 w base ok v xs) : Kd.R (Kd.int .i64) 3 w base (fun k => base ≤ k) v xs := Kd.R_mono (Kd.R_bound h) (fun _ hk => hk.2.1)
/-- Parameters in a row that is new. -/
theorem par_new {w W : World} {base b2 : Nat} {P : Nat → Prop} {v v8 : Value} {xs : List Int} (h : Kd.R (Kd.int .i64) 3 W base (fun k => w.heap.size ≤ k) v xs) (h8 : ∀ k, v8.ownBlock = some k → W.heap.size ≤ k) :
    Kd.V (Kd.int .i64) 3 W b2 (fun k => (P k ∨ w.heap.size ≤ k) ∧ some k ≠ v8.ownBlock) v xs :=
  Kd.V_mono (Kd.R_V (Kd.R_bound h)) (fun k hk => ⟨.inr hk.1, fun e => by have := h8 k e.symm; have := hk.2.2.1; omega⟩)
def ctl (b : Int) : List (Int × Int × List Int) := if 7 ≤ b ∧ b ≤ 13 then [(2, wrap32 b, [])] else []
/-- control. -/
theorem control_val (b : Int) (w : World) : Calls Try.prog 29 #[.int .u8 b] w fun e w' => ∃ v8 : Value, e = .returned v8 ∧ ActR w' w.heap.size v8 (ctl b) ∧ Below w.heap.size w w' := by
  by_cases h : 7 ≤ b ∧ b ≤ 13
  · have WV := hide (within_val b 7 13 true (by simp [h.1, h.2]))
    have HC := hide (show ctl b = [(2, wrap32 b, [])] by unfold ctl; rw [if_pos h])
    rw [HC.out]
    clear h
    go_enter Try.func29, Try.ntmps29
    go_wp2_with (go_at_call 28; with_reducible refine (WV.out _).mono ?_; rintro e v ⟨rfl, hv⟩; subst v)
    go_ret
    exact ⟨_, rfl, .inr ⟨2, wrap32 b, [], w.heap.size, .slice none 0 0, rfl, Nat.le_refl _, rfl, heap_alloc_new w _, Kd.R_nil _ _ _ _ _⟩, by (repeat (first | (with_reducible assumption) | with_reducible exact be_refl _ | (with_reducible refine be_set ?_ (by dsimp only; omega)) | (with_reducible apply be_drew) | (with_reducible apply be_drewN) | (with_reducible refine be_alloc ?_ (by first | omega | (simp; omega) | simp)) | (with_reducible refine be_call (by with_reducible assumption) (by first | omega | (simp; omega) | simp) ?_)))⟩
  · have WV := hide (within_val b 7 13 false (by by_cases h1 : 7 ≤ b <;> simp [h1]; omega))
    have HC := hide (show ctl b = [] by unfold ctl; rw [if_neg h])
    rw [HC.out]
    clear h
    go_enter Try.func29, Try.ntmps29
    go_wp2_with (go_at_call 28; with_reducible refine (WV.out _).mono ?_; rintro e v ⟨rfl, hv⟩; subst v)
    go_ret
    exact ⟨_, rfl, .nil _ _, by (repeat (first | (with_reducible assumption) | with_reducible exact be_refl _ | (with_reducible refine be_set ?_ (by dsimp only; omega)) | (with_reducible apply be_drew) | (with_reducible apply be_drewN) | (with_reducible refine be_alloc ?_ (by first | omega | (simp; omega) | simp)) | (with_reducible refine be_call (by with_reducible assumption) (by first | omega | (simp; omega) | simp) ?_)))⟩

end Go.Proofs.Ytiahfgcfgpakiaa.EscaVal


