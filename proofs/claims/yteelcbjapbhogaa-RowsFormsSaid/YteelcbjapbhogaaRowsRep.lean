/- Rows of cells: bits.Mul at 1, slices.Repeat, and Blank: contracts, without a condition of their own. -/
import Derived.Test.YteelcbjapbhogaaRowsBase
namespace Go.Proofs.Yteelcbjapbhogaa.RowsRep
open Go Go.RowKit Go.Proofs.YteelcbjapbhogaaKit Go.Proofs.Yteelcbjapbhogaa.Mem Go.Proofs.Yteelcbjapbhogaa.RowsBase
attribute [local go_sem] cell_alloc_some cell_alloc2_some cell_alloc3_some cell_alloc4_some
set_option linter.unusedVariables false
set_option linter.unusedSimpArgs false
theorem and_u64 (n : Nat) (hn : n < 4294967296) : Go.bits .and .u64 (n : Int) 4294967295 = (n : Int) := by
  have hx : n &&& 4294967295 = n := by
    have := Nat.and_two_pow_sub_one_eq_mod n 32
    rw [show (4294967295 : Nat) = 2 ^ 32 - 1 by rfl, this]
    exact Nat.mod_eq_of_lt hn
  show IntKind.u64.wrap ((BitVec.ofInt 64 (n : Int) &&& BitVec.ofInt 64 4294967295).toNat : Int) = _
  rw [BitVec.toNat_and, BitVec.ofInt_natCast, BitVec.toNat_ofNat, Nat.mod_eq_of_lt (show n < 2 ^ 64 by omega), show (BitVec.ofInt 64 4294967295).toNat = 4294967295 by decide, hx]
  unfold IntKind.wrap
  simp [IntKind.bits, IntKind.signed]
  omega
set_option maxHeartbeats 4000000 in
theorem mul64_calls (w : World) (n : Nat) (hn : n ≤ 1000) : Calls Try.prog 19 #[.int .u64 1, .int .u64 (n : Int)] w fun e w' => e = .returned (.tuple #[.int .u64 0, .int .u64 (n : Int)]) ∧ w' = w := by
  have h1 := and_u64 n (by omega)
  have h0 : Go.bits .and .u64 1 4294967295 = 1 := and_u64 1 (by omega)
  have h00 : Go.bits .and .u64 0 4294967295 = 0 := and_u64 0 (by omega)
  have h2 : (n : Int) / 4294967296 = 0 := by omega
  have hw : IntKind.u64.wrap (n : Int) = n := by
    unfold IntKind.wrap
    simp [IntKind.bits, IntKind.signed]
    omega
  have hw0 : IntKind.u64.wrap 0 = 0 := by decide
  go_enter Try.func19, Try.ntmps19
  go_wp2
  go_ret2
  exact ⟨rfl, rfl⟩
theorem mul_calls (w : World) (n : Nat) (hn : n ≤ 1000) : Calls Try.prog 17 #[.int .u64 1, .int .u64 (n : Int)] w fun e w' => e = .returned (.tuple #[.int .u64 0, .int .u64 (n : Int)]) ∧ w' = w := by
  have HM := fun w => hide (mul64_calls w n hn)
  go_enter Try.func17, Try.ntmps17
  go_wp2_with (go_at_call 19; with_reducible refine (HM _).out.mono ?_; rintro e v ⟨rfl, hv⟩; subst v)
  go_ret2
  exact ⟨rfl, rfl⟩
theorem made_cells (n : Nat) : madeCells #[.int .i32 0, .int .i64 0] (n * 2) = (flat (List.replicate n (0, 0))).toArray := by
  apply Array.ext_getElem?
  intro k
  unfold madeCells
  have ht : (flat (List.replicate n (0, 0))).toArray[k]? = (flat (List.replicate n (0, 0)))[k]? := List.getElem?_toArray
  rw [Array.getElem?_map, ht]
  by_cases hk : k < n * 2
  · rw [Array.getElem?_range, if_pos hk]
    have hg : (List.replicate n ((0, 0) : C))[k / 2]? = some (0, 0) := by rw [List.getElem?_replicate, if_pos (by omega)]
    obtain ⟨f1, f2⟩ := flat_get _ _ _ hg
    rcases Nat.mod_two_eq_zero_or_one k with h | h
    · rw [show k = k / 2 * 2 by omega, f1]
      simp [show k / 2 * 2 % 2 = 0 by omega]
    · rw [show k = k / 2 * 2 + 1 by omega, f2]
      simp [show (k / 2 * 2 + 1) % 2 = 1 by omega]
  · rw [Array.getElem?_range, if_neg hk, List.getElem?_eq_none (by rw [flat_len, List.length_replicate]; omega)]; rfl
theorem splice_rep (a z : C) (m n j : Nat) (h : j ≤ n) : splice (List.replicate m a ++ List.replicate n z) m (List.replicate j a) = List.replicate (m + j) a ++ List.replicate (n - j) z := by
  unfold splice
  rw [List.take_left' (List.length_replicate ..), List.length_replicate, List.drop_append, List.drop_of_length_le (by rw [List.length_replicate]; omega), List.nil_append, List.length_replicate, List.drop_replicate, ← List.append_assoc, List.replicate_append_replicate]
  congr 2
  omega
theorem splice_rep0 (a z : C) (n : Nat) : splice (List.replicate (n + 1) z) 0 [a] = List.replicate 1 a ++ List.replicate n z := by
  simp [splice, List.replicate_succ]
set_option maxHeartbeats 8000000 in
set_option maxRecDepth 100000 in
theorem repeat_calls (w : World) (b n : Nat) (hb : w.heap[b]? = some (.cells #[.int .i32 32, .int .i64 0] 23 (0, 0))) (hn : n ≤ 1000) :
    Calls Try.prog 16 #[.slice (some ⟨b, 0, none⟩) 1 1, .int .i64 (n : Int)] w fun e w' => ∃ g, e = .returned (sl (some g) n n) ∧ Own w' w.heap.size 23 2 (some g) n n (flat (List.replicate n blk)) ∧ Below w.heap.size w w' := by
  have HM := fun w => hide (mul_calls w n hn)
  obtain ⟨i0, hi, hz0, hz1, hz2⟩ := info_parts cellInfo
  have hmk : ∀ w : World, (Instr.makeSlice 24 (.int .i64 (n : Int)) (.int .i64 (n : Int))).run Try.prog w = .ok (.slice (some ⟨w.heap.size, 0, none⟩) n n) (w.alloc (.cells (flat (List.replicate n (0, 0))).toArray 23)) := fun w => by
    have h : (i0.bytes : Int) * ((n : Nat) : Int) ≤ 281474976710656 := by rw [hz2]; omega
    have hr := run_make (P := Try.prog) w 24 23 i0 _ Try.underlying24 hi hz0 .i64 .i64 n n (by omega) (by omega) h (by omega)
    simp only [Int.toNat_natCast, hz1] at hr
    rw [hr, ← made_cells]
    rfl
  go_enter Try.func16, Try.ntmps16
  go_upto_region 7 with (go_at_call 17; with_reducible refine (HM _).out.mono ?_; rintro e v ⟨rfl, hv⟩; subst v)
  obtain ⟨S0, hS⟩ : ∃ S0, S0 = w.heap.size := ⟨_, rfl⟩
  rw [← hS]
  have HS := hide hS
  have HB := hide hb
  have SRC := hide (show ∀ W, Below S0 w W → Rd W 0 (some ⟨b, 0, none⟩) (flat [blk]) from fun W hB => by
    have h2 : W.heap[b]? = _ := (hB.block b (by rw [hS]; exact bs_lt hb)).trans hb
    intro j v hv
    exact ⟨_, rfl, Nat.zero_le _, by rw [add_head, bs_cell h2]; simpa [flat, blk] using hv⟩)
  clear hS hb hmk hi hz0 hz1 hz2
  have OW0 := hide (show Own (w.alloc (.cells (flat (List.replicate n (0, 0))).toArray 23)) S0 23 2 (some S0) n n (flat (List.replicate n (0, 0))) from Own.lit (bs_new HS.out) (by rw [flat_len, List.length_replicate]) (Nat.le_refl _) (by unfold maxLen; omega))
  have BW0 := hide (show Below S0 w (w.alloc (.cells (flat (List.replicate n (0, 0))).toArray 23)) from be_alloc (by rw [HS.out]; exact be_refl _) (by rw [HS.out]; exact Nat.le_refl _))
  generalize w.alloc (.cells (flat (List.replicate n (0, 0))).toArray 23) = W0 at *
  have MN := hide (show Nat.min 1 n = 0 ∧ n = 0 ∨ Nat.min 1 n = 1 ∧ 1 ≤ n by
    by_cases h : n = 0
    · exact .inl ⟨by rw [h]; rfl, h⟩
    · exact .inr ⟨Nat.min_eq_left (by omega), by omega⟩)
  obtain ⟨k1, hk1⟩ : ∃ k1, k1 = Nat.min 1 n := ⟨_, rfl⟩
  have HK1 := hide hk1
  clear hk1
  have G1 := hide (show goInt (Nat.min 1 n) = .int .i64 (k1 : Int) by rw [← HK1.out]; rfl)
  have A1 := hide (show (flat (List.replicate k1 blk)).length = Nat.min 1 n * 2 by rw [flat_len, List.length_replicate, HK1.out])
  have A2 := hide (show Rd W0 0 (some ⟨b, 0, none⟩) (flat (List.replicate k1 blk)) by
    rcases MN.out with ⟨h, _⟩ | ⟨h, _⟩
    · rw [HK1.out, h]; exact Rd.nil _ _ _
    · rw [HK1.out, h]; exact SRC.out _ BW0.out)
  have A3 := hide (show 0 + (flat (List.replicate k1 blk)).length ≤ (flat (List.replicate n (0, 0))).length by rw [flat_len, flat_len, List.length_replicate, List.length_replicate]; have := MN.out; have := HK1.out; omega)
  have A4 := hide (show splice (flat (List.replicate n (0, 0))) 0 (flat (List.replicate k1 blk)) = flat (List.replicate k1 blk ++ List.replicate (n - k1) (0, 0)) by
    have h := flat_splice (List.replicate n (0, 0)) (List.replicate k1 blk) 0
    rw [Nat.zero_mul] at h
    rw [h]
    have h2 := splice_rep blk (0, 0) 0 n k1 (by have := MN.out; have := HK1.out; omega)
    simpa using congrArg flat h2)
  have K1 := hide (show k1 ≤ n ∧ (n = 0 ∨ 1 ≤ k1) by have := MN.out; have := HK1.out; omega)
  go_upto_region 8 with (with_reducible refine wpList_copy_rd _ rfl (.tmp 31) (.tmp 32) 24 24 rfl S0 23 2 Try.underlying24 cellSize (by omega) (some S0) n n (flat (List.replicate n (0, 0))) OW0.out _ 0 _ _ _ _ _ rfl rfl (flat (List.replicate k1 blk)) A1.out (fun _ => ⟨S0, rfl, rfl⟩) A2.out A3.out (flat_one _) ?_; intro W1 hO1 hG1; rw [A4.out] at hO1; have O1 := hide hO1; have B1 := hide (below_grown BW0.out (by have := own_base OW0.out; omega) hG1 (fun b e => by cases e; exact Nat.le_refl _)); clear hO1 hG1; rw [G1.out])
  go_loopw [8] (fun v8 wr => ∃ m : Nat, m ≤ n ∧ (n = 0 ∨ 1 ≤ m) ∧ v8 = .int .i64 (m : Int) ∧ Own wr S0 23 2 (some S0) n n (flat (List.replicate m blk ++ List.replicate (n - m) (0, 0))) ∧ Below S0 w wr) (fun v8 _ => (n - intOf v8).toNat)
  case atStart => exact ⟨k1, K1.out.1, K1.out.2, rfl, O1.out, B1.out⟩
  case round =>
    obtain ⟨m, hm, hm1, rfl, hO, hB⟩ := hrel
    have O2 := hide hO
    have B2 := hide hB
    clear hO hB
    by_cases hlt : m < n
    · have p1 : ((m : Int) < (n : Int)) = True := eq_true (by omega)
      have q0 : (0 : Int) ≤ (m : Int) := by omega
      have q1 : (m : Int) ≤ (n : Int) := by omega
      go_upto_region 9 with fail
      obtain ⟨k2, hk2⟩ : ∃ k2, k2 = Nat.min m (n - m) := ⟨_, rfl⟩
      have HK2 := hide hk2
      have hk2b : k2 ≤ m ∧ k2 ≤ n - m ∧ (k2 = m ∨ k2 = n - m) := by rw [hk2]; show min m (n - m) ≤ m ∧ min m (n - m) ≤ n - m ∧ (min m (n - m) = m ∨ min m (n - m) = n - m); omega
      have KB := hide hk2b
      have NE := hide (show ¬ n = m by omega)
      have D0 := hide (show goInt (Nat.min m (n - m)) = .int .i64 (k2 : Int) by rw [← HK2.out]; rfl)
      have D1 := hide (show (flat (List.replicate k2 blk)).length = Nat.min m (n - m) * 2 by rw [flat_len, List.length_replicate, HK2.out])
      have D2 := hide (show Rd wr.drew 0 (some ⟨S0, 0, none⟩) (flat (List.replicate k2 blk)) by
        intro j v hj
        have hlt2 := (List.getElem?_eq_some_iff.1 hj).1
        rw [flat_len, List.length_replicate] at hlt2
        refine (Rd.of O2.out.drew).lower (Nat.zero_le _) j v ?_
        rw [flat_append, List.getElem?_append_left (by rw [flat_len, List.length_replicate]; have := KB.out; omega)]
        have h2 := flat_take (List.replicate m blk) k2
        rw [List.take_replicate, Nat.min_eq_left KB.out.1] at h2
        rw [← h2, List.getElem?_take] at hj
        rw [if_pos (by omega)] at hj
        exact hj)
      have D3 := hide (show m * 2 + (flat (List.replicate k2 blk)).length ≤ (flat (List.replicate m blk ++ List.replicate (n - m) (0, 0))).length by rw [flat_len, flat_len, List.length_append, List.length_replicate, List.length_replicate, List.length_replicate]; have := KB.out; omega)
      have D4 := hide (show splice (flat (List.replicate m blk ++ List.replicate (n - m) (0, 0))) (m * 2) (flat (List.replicate k2 blk)) = flat (List.replicate (m + k2) blk ++ List.replicate (n - (m + k2)) (0, 0)) by
        rw [flat_splice, splice_rep _ _ _ _ _ KB.out.2.1]
        congr 2
        congr 1
        omega)
      have HM1 := hide (And.intro hm1 hlt)
      have hwk : IntKind.i64.wrap ((m : Int) + (k2 : Int)) = (m : Int) + (k2 : Int) := by rw [IntKind.wrap_i64]; omega
      have hwk2 : wrap64 ((m : Int) + (k2 : Int)) = (m : Int) + (k2 : Int) := by unfold wrap64; omega
      clear hk2 hk2b hm1
      go_region_law ((refine step_copy_rd _ (by rfl) (.tmp 41) (.tmp 44) 24 24 (by rfl) S0 23 2 Try.underlying24 cellSize (by omega) (some S0) n n (flat (List.replicate m blk ++ List.replicate (n - m) (0, 0))) O2.out.drew (if n = m then some ⟨S0, 0, none⟩ else some ⟨S0, m * 2, none⟩) (m * 2) (n - m) (n - m) (some ⟨S0, 0, none⟩) m n (by first | with_reducible rfl | (simp only [Act.eval, Act.put]; done) | (simp [Act.eval, Act.put]; done) | rfl) (by first | with_reducible rfl | (simp only [Act.eval, Act.put]; done) | (simp [Act.eval, Act.put]; done) | rfl) (flat (List.replicate k2 blk)) D1.out (fun _ => ⟨S0, rfl, if_neg NE.out⟩) D2.out D3.out (flat_one _) ?_; intro W3 hO3 hG3; rw [D4.out] at hO3; have O3 := hide hO3; have B3 := hide (below_grown (be_drew B2.out) (by have := own_base O2.out; simp; omega) hG3 (fun b e => by cases e; exact Nat.le_refl _)); clear hO3 hG3; rw [D0.out]))
      all_goals go_wp2
      all_goals (
        refine ⟨⟨m + k2, by have := KB.out; omega, by have := HM1.out; omega, by simp, O3.out, B3.out⟩, ?_⟩
        simp only [intOf]; have := HM1.out; have := KB.out; omega)
    · have p1 : ((m : Int) < (n : Int)) = False := eq_false (by omega)
      have hmn : m = n := by omega
      subst hmn
      go_wp2
      go_ret
      refine ⟨S0, rfl, ?_, ?_⟩
      · have h := O2.out
        rw [Nat.sub_self, List.replicate_zero, List.append_nil] at h
        rwa [← HS.out]
      · rw [← HS.out]; exact B2.out
end Go.Proofs.Yteelcbjapbhogaa.RowsRep

