/- RowsLong: no row gets longer or shorter, however much is put in, or taken out; what was put in and taken out again leaves what stood ahead, and behind as far as it stayed: for any row, place and number, without a condition. -/
import Derived.Deep.QuietTactic
import Derived.Test.YteelcbjapbhogaaRowsArg
namespace Go.Proofs.Yteelcbjapbhogaa.RowsLongW
open Go Go.RowKit Go.Proofs.YteelcbjapbhogaaKit Go.Proofs.Yteelcbjapbhogaa.Mem Go.Proofs.Yteelcbjapbhogaa.RowsBase Go.Proofs.Yteelcbjapbhogaa.RowsRep Go.Proofs.Yteelcbjapbhogaa.RowsOps Go.Proofs.Yteelcbjapbhogaa.RowsMore Go.Proofs.Yteelcbjapbhogaa.RowsIns Go.Proofs.Yteelcbjapbhogaa.RowsUse
attribute [local go_sem] cell_alloc_some cell_alloc2_some cell_alloc3_some cell_alloc4_some
set_option linter.unusedVariables false
set_option linter.unusedSimpArgs false
theorem splice_get {α : Type} (L cs : List α) (off i : Nat) (h : off + cs.length ≤ L.length) : (splice L off cs)[i]? = if i < off then L[i]? else if i < off + cs.length then cs[i - off]? else L[i]? := by
  unfold splice
  have h1 : (L.take off).length = off := by rw [List.length_take]; omega
  by_cases a : i < off
  · rw [if_pos a, List.getElem?_append_left (by omega), List.getElem?_take, if_pos a]
  · rw [if_neg a, List.getElem?_append_right (by omega), h1]
    by_cases b : i < off + cs.length
    · rw [if_pos b, List.getElem?_append_left (by omega)]
    · rw [if_neg b, List.getElem?_append_right (by omega), List.getElem?_drop]
      congr 1; omega
theorem ins_get (cs : List C) (x n i : Nat) (h : x + n ≤ cs.length) (hi : i < cs.length) : (ins cs x n)[i]? = if i < x then cs[i]? else if i < x + n then some blk else cs[i - n]? := by
  unfold ins
  rw [clr_get, splice_get _ _ _ _ (by simp; omega)]
  simp only [List.length_take, List.length_drop]
  by_cases a : i < x
  · rw [if_pos (show i < x + n by omega), if_pos a, List.getElem?_eq_getElem hi]; simp; omega
  · rw [if_neg a]
    by_cases b : i < x + n
    · rw [if_pos b, if_pos b, List.getElem?_eq_getElem hi]; simp; omega
    · rw [if_neg b, if_neg b, if_pos (by omega), List.getElem?_take, if_pos (by omega), List.getElem?_drop, show x + (i - (x + n)) = i - n by omega, List.getElem?_eq_getElem (show i - n < cs.length by omega)]
      simp; omega
theorem del_get (cs : List C) (x n i : Nat) (h : x + n ≤ cs.length) (hi : i < cs.length) : (del cs x n)[i]? = if cs.length - n ≤ i then some blk else if i < x then cs[i]? else cs[i + n]? := by
  unfold del
  rw [clr_get, splice_get _ _ _ _ (by simp; omega)]
  simp only [List.length_drop]
  by_cases a : cs.length - n ≤ i
  · rw [if_pos a]
    have : ∃ c, (if i < x then cs[i]? else if i < x + (cs.length - (x + n)) then (cs.drop (x + n))[i - x]? else cs[i]?) = some c := by
      split
      · exact ⟨_, List.getElem?_eq_getElem hi⟩
      · split
        · omega
        · exact ⟨_, List.getElem?_eq_getElem hi⟩
    obtain ⟨c, hc⟩ := this
    rw [hc]; simp [a, hi]
  · rw [if_neg a]
    by_cases b : i < x
    · rw [if_pos b, if_pos b, List.getElem?_eq_getElem hi]; simp [a]
    · rw [if_neg b, if_neg b, if_pos (by omega), List.getElem?_drop, show x + n + (i - x) = i + n by omega, List.getElem?_eq_getElem (show i + n < cs.length by omega)]
      simp [a]
theorem back_get (cs : List C) (x n i : Nat) (h : x + n ≤ cs.length) (hi : i < cs.length) : (del (ins cs x n) x n)[i]? = if cs.length - n ≤ i then some blk else cs[i]? := by
  have hl := ins_len cs x n h
  rw [del_get _ _ _ _ (by rw [hl]; exact h) (by rw [hl]; exact hi), hl]
  by_cases a : cs.length - n ≤ i
  · rw [if_pos a, if_pos a]
  · rw [if_neg a, if_neg a]
    by_cases b : i < x
    · rw [if_pos b, ins_get _ _ _ _ h hi, if_pos b]
    · rw [if_neg b, ins_get _ _ _ _ h (by omega), if_neg (by omega), if_neg (by omega), Nat.add_sub_cancel]
theorem rd_head {W : World} {lo : Nat} {oa : Option Addr} {cs : List C} (h : RdC W lo oa cs) (h0 : 0 < cs.length) : ∃ b o, oa = some ⟨b, o, none⟩ := by
  obtain ⟨a, e, _, x0, _⟩ := RdC.at_ h (List.getElem?_eq_getElem h0)
  obtain ⟨b, o, sp⟩ := a
  cases sp with
  | none => exact ⟨b, o, e⟩
  | some v =>
    rw [Nat.zero_mul] at x0
    unfold Addr.add at x0
    simp [World.cell?] at x0
    split at x0 <;> simp at x0
theorem rd_at {W : World} {lo b o : Nat} {cs : List C} (h : RdC W lo (some ⟨b, o, none⟩) cs) {i : Nat} {c : C} (hc : cs[i]? = some c) : W.cell? ⟨b, o + i * 2, none⟩ = some (.int .i32 c.1) ∧ W.cell? ⟨b, o + i * 2 + 1, none⟩ = some (.int .i64 c.2) := by
  obtain ⟨a, e, _, x0, x1⟩ := RdC.at_ h hc
  cases e
  rw [add_head'] at x0 x1
  exact ⟨x0, by rw [Nat.add_assoc]; exact x1⟩
theorem and255 (n : Int) : ∃ N : Nat, Go.bits .and .i64 n 255 = (N : Int) ∧ N ≤ 255 := by
  have h : 0 ≤ Go.bits .and .i64 n 255 ∧ Go.bits .and .i64 n 255 ≤ 255 := and_range 8 (by omega) n
  exact ⟨(Go.bits .and .i64 n 255).toNat, by omega, by omega⟩
theorem and31 (n : Int) : ∃ N : Nat, Go.bits .and .i64 n 31 = (N : Int) ∧ N ≤ 31 := by
  have h : 0 ≤ Go.bits .and .i64 n 31 ∧ Go.bits .and .i64 n 31 ≤ 31 := and_range 5 (by omega) n
  exact ⟨(Go.bits .and .i64 n 31).toNat, by omega, by omega⟩
set_option maxHeartbeats 16000000 in
set_option maxRecDepth 100000 in
theorem walkR (A : Option Addr) (L c : Nat) (cs : List C) (x0 n0 : Int) (w : World) (hn : cs.length = L) (hlc : L ≤ c) (hm : c ≤ maxLen) (hr : RdC w 0 A cs) (_ : (Lit.int .i64 x0).wf = true) (_ : (Lit.int .i64 n0).wf = true) :
    Calls Try.prog 5 #[.slice A L c, .int .i64 x0, .int .i64 n0] w fun e w' => e = .returned (.bool true) ∧ Below w.heap.size w w' := by
  unfold maxLen at hm
  by_cases hL : 200 < L ∨ L = 0
  · have hc : ((200 : Int) < (L : Int)) = True ∨ ((200 : Int) < (L : Int)) = False ∧ L = 0 := by
      by_cases h : 200 < L
      · exact .inl (eq_true (by omega))
      · exact .inr ⟨eq_false (by omega), by omega⟩
    clear hL hn hr
    rcases hc with p1 | ⟨p1, rfl⟩
    all_goals
      go_enter Try.func5, Try.ntmps5
      go_wp2_with (go_at_call 12; refine (awake_calls _).mono ?_; rintro e W4 ⟨rfl, hb4⟩)
      go_ret
      exact ⟨rfl, hb4⟩
  · obtain ⟨X, hX, hX5⟩ := and255 x0
    obtain ⟨N, hN, hN5⟩ := and31 n0
    have hL1 : (200 < (L : Int)) = False := eq_false (by omega)
    have hL2 : ((L : Int) = 0) = False := eq_false (by omega)
    have hLp : (1 : Int) ≤ (L : Int) := by omega
    obtain ⟨x, hx⟩ : ∃ x : Nat, (X : Int) % (L : Int) = (x : Int) := ⟨X % L, by simp⟩
    have hxL : x < L := by
      have := Int.emod_lt_of_pos (X : Int) (show (0 : Int) < L by omega)
      omega
    obtain ⟨ab, ao, rfl⟩ := rd_head hr (by omega)
    have HL := hide (show 0 < L ∧ L ≤ 200 ∧ L ≤ c by omega)
    have HN := hide hn
    have HR := hide hr
    have HX := hide (And.intro hxL hN5)
    have BR := hide (be_refl w)
    clear hn hr hL hX5 hN5 hxL
    go_enter Try.func5, Try.ntmps5
    go_upto_region 4 with fail
    rw [hx]
    clear hx hX hN
    go_upto_region 9 with (first
      | (go_at_call 6; (with_reducible refine (u_insert w (some ⟨ab, ao, none⟩) L c cs HN.out HL.out.1 HL.out.2.2 HR.out (by have := HL.out; omega) _ _).mono ?_); rintro e W1 ⟨g1, k1, rfl, hg1, hk1, hO, hB⟩; have O1 := hide hO; have B1 := hide hB; have K1 := hide hk1; clear hO hB hk1 hg1)
      | (go_at_call 7; (with_reducible refine (u_delete W1 (some ⟨g1, 0, none⟩) L k1 _ (by rw [insert_len]; exact HN.out) HL.out.1 K1.out (rd_own O1.out) (by have := HL.out; omega) _ _).mono ?_); rintro e W2 ⟨g2, k2, rfl, hg2, hk2, hO, hB⟩; have O2 := hide hO; have P1 := hide (O1.out.below hB); have B2 := hide (be_call hB B1.out.size B1.out); clear hO hB hk2 hg2)
      | (go_at_call 7; (with_reducible refine (u_delete W2 (some ⟨ab, ao, none⟩) L c cs HN.out HL.out.1 HL.out.2.2 (HR.out.below B2.out) (by have := HL.out; omega) _ _).mono ?_); rintro e W3 ⟨g3, k3, rfl, hg3, hk3, hO, hB⟩; have O3 := hide hO; have Q1 := hide (P1.out.below hB); have P2 := hide (O2.out.below hB); have B3 := hide (be_call hB B2.out.size B2.out); clear hO hB hk3 hg3)
      | (go_at_call 8; (with_reducible refine (u_clear W3 (some ⟨ab, ao, none⟩) L c cs HN.out HL.out.1 (HR.out.below B3.out) (by have := HL.out; omega) _ _).mono ?_); rintro e W4 ⟨g4, k4, rfl, hg4, hk4, hO, hB⟩; have R1 := hide (Q1.out.below hB); have Q2 := hide (P2.out.below hB); have P3 := hide (O3.out.below hB); have B4 := hide (be_call hB B3.out.size B3.out); clear hO hB hk4 hg4)
      | (go_at_call 10; (with_reducible refine (u_put W4 (some ⟨ab, ao, none⟩) L c cs HN.out HL.out.1 (HR.out.below B4.out) (by have := HL.out; omega) _ (0, 0)).mono ?_); rintro e W5 ⟨g5, k5, rfl, hg5, hk5, hO, hB⟩; have S1 := hide (R1.out.below hB); have R2 := hide (Q2.out.below hB); have Q3 := hide (P3.out.below hB); have B5 := hide (be_call hB B4.out.size B4.out); clear hO hB hk5 hg5))
    obtain ⟨K, hK⟩ : ∃ K, K = many (N : Int) L x := ⟨_, rfl⟩
    have hxK : x + K ≤ L := by rw [hK]; exact many_le _ _ _ HX.out.1
    have e1 : RowsIns.insert cs (x : Int) (N : Int) = ins cs x K := by
      unfold RowsIns.insert
      rw [if_pos (by have := HX.out; have := HN.out; omega), Int.toNat_natCast, HN.out, ← hK]
    have e2 : delete (ins cs x K) (x : Int) (N : Int) = del (ins cs x K) x K := by
      unfold delete
      rw [ins_len _ _ _ (by rw [HN.out]; exact hxK), if_pos (by have := HX.out; have := HN.out; omega), Int.toNat_natCast, HN.out, ← hK]
    have e3 : delete cs (x : Int) (N : Int) = del cs x K := by
      unfold delete
      rw [if_pos (by have := HX.out; have := HN.out; omega), Int.toNat_natCast, HN.out, ← hK]
    rw [e1] at S1
    rw [e1, e2] at R2
    rw [e3] at Q3
    have hKc : ((L : Int) - (x : Int) < (N : Int)) ∧ (L : Int) - (x : Int) = (K : Int) ∨ ¬ ((L : Int) - (x : Int) < (N : Int)) ∧ N = K := by
      rw [hK]; unfold many; have := HX.out; omega
    have HK := hide hxK
    have xL := HX.out.1
    clear e1 e2 e3 hK hxK
    have HCS := hide (show ∀ W, Below W5.heap.size W5 W → RdC W 0 (some ⟨ab, ao, none⟩) cs ∧ (∀ i c, (ins cs x K)[i]? = some c → W.cell? ⟨g1, i * 2, none⟩ = some (.int .i32 c.1) ∧ W.cell? ⟨g1, i * 2 + 1, none⟩ = some (.int .i64 c.2)) ∧ (∀ i c, (del (ins cs x K) x K)[i]? = some c → W.cell? ⟨g2, i * 2, none⟩ = some (.int .i32 c.1) ∧ W.cell? ⟨g2, i * 2 + 1, none⟩ = some (.int .i64 c.2)) ∧ (∀ i c, (del cs x K)[i]? = some c → W.cell? ⟨g3, i * 2, none⟩ = some (.int .i32 c.1) ∧ W.cell? ⟨g3, i * 2 + 1, none⟩ = some (.int .i64 c.2)) from fun W hB =>
      ⟨HR.out.below (be_call hB B5.out.size B5.out), fun i c h => own_get (S1.out.below hB) i c h, fun i c h => own_get (R2.out.below hB) i c h, fun i c h => own_get (Q3.out.below hB) i c h⟩)
    rcases hKc with ⟨q1, q2⟩ | ⟨q1, q2⟩
    · have q3 : ((K : Int) < (N : Int)) = True := eq_true (by omega)
      have HQ := hide q2
      clear q1
      go_upto_region 11 with fail
      clear q2 q3
      go_loopw [88] (fun v88 wr => ∃ j : Nat, j ≤ L ∧ v88 = .int .i64 (j : Int) ∧ Below W5.heap.size W5 wr) (fun v88 _ => (L - intOf v88).toNat)
      case atStart => exact ⟨0, Nat.zero_le _, rfl, be_refl _⟩
      case round =>
        obtain ⟨j, hj, rfl, hB⟩ := hrel
        have B6 := hide hB
        clear hB
        by_cases hlt : j < L
        · have p1 : ((j : Int) < (L : Int)) = True := eq_true (by omega)
          have p0 : (0 : Int) ≤ (j : Int) := by omega
          have p2 : (j : Int) < (L : Int) := by omega
          obtain ⟨⟨c1, c2⟩, hc⟩ : ∃ e, cs[j]? = some e := ⟨_, List.getElem?_eq_getElem (by have := HN.out; omega)⟩
          obtain ⟨h1, h2, h3, h4⟩ := HCS.out wr B6.out
          obtain ⟨x0, x1⟩ := rd_at h1 hc
          have HC := hide hc
          have HJ := hide (And.intro hlt hj)
          clear hc h1 h2 h3 h4 hlt hj
          go_upto_region 14 with fail
          obtain ⟨wb, hwb⟩ : ∃ wb, wb = wr.heap.size := ⟨_, rfl⟩
          rw [← hwb]
          refine wp_letter (fun M => Below W5.heap.size W5 M ∧ W5.heap.size ≤ wb ∧ M.heap[wb]? = some (.cells #[.int .i32 c1, .int .i64 c2] 23 (0, 0))) ⟨be_alloc B6.out B6.out.size, by rw [hwb]; exact B6.out.size, bs_new hwb⟩ ?_
          rintro M ⟨hM1, hM2, hM3⟩
          clear x0 x1 hwb
          have BM := hide hM1
          have BL := hide hM2
          have BK := hide hM3
          obtain ⟨m0, m1, mf⟩ := cells2 hM3
          have hls := HK.out
          have hne := fun (w : World) (a b c d : Int) => cell_neq w (a, b) (c, d)
          have hb : (del (ins cs x K) x K)[j]? = if L - K ≤ j then some blk else some (c1, c2) := by
            rw [back_get _ _ _ _ (by rw [HN.out]; exact hls) (by rw [HN.out]; exact HJ.out.1), HN.out, HC.out]
          have tx : (0 : Int) ≤ (x : Int) := by omega
          have b1 : (L : Int) ≤ 200 := by have := HL.out; omega
          have b2 : (K : Int) ≤ (L : Int) := by omega
          have b3 : (x : Int) + (K : Int) ≤ (L : Int) := by omega
          have w1 : IntKind.i64.wrap ((x : Int) + (K : Int)) = (x : Int) + (K : Int) := by have := HL.out; rw [IntKind.wrap_i64]; omega
          have HJ1 := hide (show wrap64 ((j : Int) + 1) = (j : Int) + 1 by have := HL.out; have := HJ.out; unfold wrap64; omega)
          have ways : (j < x ∧ ¬ L - K ≤ j) ∨ ((x ≤ j ∧ j < x + K) ∧ L - K ≤ j) ∨ ((x ≤ j ∧ j < x + K) ∧ ¬ L - K ≤ j) ∨ (x + K ≤ j ∧ L - K ≤ j) ∨ (x + K ≤ j ∧ ¬ L - K ≤ j) := by omega
          clear hM1 hM2 hM3
          rcases ways with ⟨t1, t2⟩ | ⟨⟨t1, t3⟩, t2⟩ | ⟨⟨t1, t3⟩, t2⟩ | ⟨t1, t2⟩ | ⟨t1, t2⟩
          · have s1 : ((L : Int) - (K : Int) ≤ (j : Int)) = False := eq_false (by omega)
            have s0 : ((j : Int) < (x : Int)) = True := eq_true (by omega)
            have s2 : ((x : Int) ≤ (j : Int)) = False := eq_false (by omega)
            have TT := hide (And.intro t1 t2)
            have HB5 := hide hb
            clear t1 t2 hb hls
            go_upto_region 16 with fail
            refine wp_letter (fun M2 => Below W5.heap.size W5 M2 ∧ M2.heap[wb]? = some (.cells #[.int .i32 c1, .int .i64 c2] 23 (0, 0))) ⟨by first | exact be_set (be_set BM.out (by have := BL.out; dsimp only; omega)) (by have := BL.out; dsimp only; omega) | exact BM.out, by first | exact BK.out | exact bs_eq (bs_same (bs_same BK.out)) rfl⟩ ?_
            rintro M2 ⟨hM1, hM3⟩
            clear m0 m1 mf
            obtain ⟨m0, m1, mf⟩ := cells2 hM3
            obtain ⟨h1, h2, h3, h4⟩ := HCS.out M2 hM1
            obtain ⟨x0, x1⟩ := rd_at h1 HC.out
            have B9 := hide hM1
            obtain ⟨t1, t2⟩ := TT.out
            have hb := HB5.out
            have hls := HK.out
            rw [if_neg t2] at hb
            obtain ⟨z0, z1⟩ := h3 j (c1, c2) hb
            obtain ⟨y0, y1⟩ := h2 j (c1, c2) (by rw [ins_get _ _ _ _ (by rw [HN.out]; exact hls) (by rw [HN.out]; exact HJ.out.1), if_pos t1]; exact HC.out)
            obtain ⟨d0, d1⟩ := h4 j (c1, c2) (by rw [del_get _ _ _ _ (by rw [HN.out]; exact hls) (by rw [HN.out]; exact HJ.out.1), HN.out, if_neg t2, if_pos t1]; exact HC.out)
            clear t1 t2 hb h1 h2 h3 h4 hls hM1 hM3
            go_quiet (fail)
            go_wp2
            refine ⟨⟨j + 1, by have := HJ.out; omega, by simp, be_drewN B9.out⟩, ?_⟩
            simp only [intOf]; have := HJ.out; omega
          · have s1 : ((L : Int) - (K : Int) ≤ (j : Int)) = True := eq_true (by omega)
            have s0 : ((j : Int) < (x : Int)) = False := eq_false (by omega)
            have s2 : ((x : Int) ≤ (j : Int)) = True := eq_true (by omega)
            have s3 : ((j : Int) < (x : Int) + (K : Int)) = True := eq_true (by omega)
            have TT := hide (And.intro t1 t2)
            have T3 := hide t3
            have HB5 := hide hb
            clear t1 t2 hb hls t3
            go_upto_region 16 with fail
            refine wp_letter (fun M2 => Below W5.heap.size W5 M2 ∧ M2.heap[wb]? = some (.cells #[.int .i32 32, .int .i64 0] 23 (0, 0))) ⟨by first | exact be_set (be_set BM.out (by have := BL.out; dsimp only; omega)) (by have := BL.out; dsimp only; omega) | exact BM.out, by first | exact BK.out | exact bs_eq (bs_same (bs_same BK.out)) rfl⟩ ?_
            rintro M2 ⟨hM1, hM3⟩
            clear m0 m1 mf
            obtain ⟨m0, m1, mf⟩ := cells2 hM3
            obtain ⟨h1, h2, h3, h4⟩ := HCS.out M2 hM1
            obtain ⟨x0, x1⟩ := rd_at h1 HC.out
            have B9 := hide hM1
            obtain ⟨t1, t2⟩ := TT.out
            have t3 := T3.out
            have hb := HB5.out
            have hls := HK.out
            rw [if_pos t2] at hb
            obtain ⟨z0, z1⟩ := h3 j (32, 0) hb
            obtain ⟨y0, y1⟩ := h2 j (32, 0) (by rw [ins_get _ _ _ _ (by rw [HN.out]; exact hls) (by rw [HN.out]; exact HJ.out.1), if_neg (by omega), if_pos t3]; rfl)
            clear t1 t2 hb h1 h2 h3 h4 hls hM1 hM3 t3
            go_quiet (fail)
            go_wp2
            refine ⟨⟨j + 1, by have := HJ.out; omega, by simp, be_drewN B9.out⟩, ?_⟩
            simp only [intOf]; have := HJ.out; omega
          · have s1 : ((L : Int) - (K : Int) ≤ (j : Int)) = False := eq_false (by omega)
            have s0 : ((j : Int) < (x : Int)) = False := eq_false (by omega)
            have s2 : ((x : Int) ≤ (j : Int)) = True := eq_true (by omega)
            have s3 : ((j : Int) < (x : Int) + (K : Int)) = True := eq_true (by omega)
            have TT := hide (And.intro t1 t2)
            have T3 := hide t3
            have HB5 := hide hb
            clear t1 t2 hb hls t3
            go_upto_region 16 with fail
            refine wp_letter (fun M2 => Below W5.heap.size W5 M2 ∧ M2.heap[wb]? = some (.cells #[.int .i32 c1, .int .i64 c2] 23 (0, 0))) ⟨by first | exact be_set (be_set BM.out (by have := BL.out; dsimp only; omega)) (by have := BL.out; dsimp only; omega) | exact BM.out, by first | exact BK.out | exact bs_eq (bs_same (bs_same BK.out)) rfl⟩ ?_
            rintro M2 ⟨hM1, hM3⟩
            clear m0 m1 mf
            obtain ⟨m0, m1, mf⟩ := cells2 hM3
            obtain ⟨h1, h2, h3, h4⟩ := HCS.out M2 hM1
            obtain ⟨x0, x1⟩ := rd_at h1 HC.out
            have B9 := hide hM1
            obtain ⟨t1, t2⟩ := TT.out
            have t3 := T3.out
            have hb := HB5.out
            have hls := HK.out
            rw [if_neg t2] at hb
            obtain ⟨z0, z1⟩ := h3 j (c1, c2) hb
            obtain ⟨y0, y1⟩ := h2 j (32, 0) (by rw [ins_get _ _ _ _ (by rw [HN.out]; exact hls) (by rw [HN.out]; exact HJ.out.1), if_neg (by omega), if_pos t3]; rfl)
            clear t1 t2 hb h1 h2 h3 h4 hls hM1 hM3 t3
            go_quiet (fail)
            go_wp2
            refine ⟨⟨j + 1, by have := HJ.out; omega, by simp, be_drewN B9.out⟩, ?_⟩
            simp only [intOf]; have := HJ.out; omega
          · have s1 : ((L : Int) - (K : Int) ≤ (j : Int)) = True := eq_true (by omega)
            have s0 : ((j : Int) < (x : Int)) = False := eq_false (by omega)
            have s2 : ((x : Int) ≤ (j : Int)) = True := eq_true (by omega)
            have s3 : ((j : Int) < (x : Int) + (K : Int)) = False := eq_false (by omega)
            have TT := hide (And.intro t1 t2)
            have HB5 := hide hb
            clear t1 t2 hb hls
            go_upto_region 16 with fail
            refine wp_letter (fun M2 => Below W5.heap.size W5 M2 ∧ M2.heap[wb]? = some (.cells #[.int .i32 32, .int .i64 0] 23 (0, 0))) ⟨by first | exact be_set (be_set BM.out (by have := BL.out; dsimp only; omega)) (by have := BL.out; dsimp only; omega) | exact BM.out, by first | exact BK.out | exact bs_eq (bs_same (bs_same BK.out)) rfl⟩ ?_
            rintro M2 ⟨hM1, hM3⟩
            clear m0 m1 mf
            obtain ⟨m0, m1, mf⟩ := cells2 hM3
            obtain ⟨h1, h2, h3, h4⟩ := HCS.out M2 hM1
            obtain ⟨x0, x1⟩ := rd_at h1 HC.out
            have B9 := hide hM1
            obtain ⟨t1, t2⟩ := TT.out
            have hb := HB5.out
            have hls := HK.out
            rw [if_pos t2] at hb
            obtain ⟨z0, z1⟩ := h3 j (32, 0) hb
            clear t1 t2 hb h1 h2 h3 h4 hls hM1 hM3
            go_quiet (fail)
            go_wp2
            refine ⟨⟨j + 1, by have := HJ.out; omega, by simp, be_drewN B9.out⟩, ?_⟩
            simp only [intOf]; have := HJ.out; omega
          · have s1 : ((L : Int) - (K : Int) ≤ (j : Int)) = False := eq_false (by omega)
            have s0 : ((j : Int) < (x : Int)) = False := eq_false (by omega)
            have s2 : ((x : Int) ≤ (j : Int)) = True := eq_true (by omega)
            have s3 : ((j : Int) < (x : Int) + (K : Int)) = False := eq_false (by omega)
            have TT := hide (And.intro t1 t2)
            have HB5 := hide hb
            clear t1 t2 hb hls
            go_upto_region 16 with fail
            refine wp_letter (fun M2 => Below W5.heap.size W5 M2 ∧ M2.heap[wb]? = some (.cells #[.int .i32 c1, .int .i64 c2] 23 (0, 0))) ⟨by first | exact be_set (be_set BM.out (by have := BL.out; dsimp only; omega)) (by have := BL.out; dsimp only; omega) | exact BM.out, by first | exact BK.out | exact bs_eq (bs_same (bs_same BK.out)) rfl⟩ ?_
            rintro M2 ⟨hM1, hM3⟩
            clear m0 m1 mf
            obtain ⟨m0, m1, mf⟩ := cells2 hM3
            obtain ⟨h1, h2, h3, h4⟩ := HCS.out M2 hM1
            obtain ⟨x0, x1⟩ := rd_at h1 HC.out
            have B9 := hide hM1
            obtain ⟨t1, t2⟩ := TT.out
            have hb := HB5.out
            have hls := HK.out
            rw [if_neg t2] at hb
            obtain ⟨z0, z1⟩ := h3 j (c1, c2) hb
            clear t1 t2 hb h1 h2 h3 h4 hls hM1 hM3
            go_quiet (fail)
            go_wp2
            refine ⟨⟨j + 1, by have := HJ.out; omega, by simp, be_drewN B9.out⟩, ?_⟩
            simp only [intOf]; have := HJ.out; omega
        · have p1 : ((j : Int) < (L : Int)) = False := eq_false (by omega)
          clear hlt hj
          go_wp2_with (go_at_call 12; refine (awake_calls _).mono ?_; rintro e W8 ⟨rfl, hb8⟩)
          go_ret
          have B7 := be_call B6.out B5.out.size B5.out
          exact ⟨rfl, be_call hb8 B7.size B7⟩
    · have q3 : ((L : Int) - (x : Int) < (N : Int)) = False := eq_false q1
      obtain ⟨M, hM⟩ : ∃ M, M = N := ⟨_, rfl⟩
      subst q2
      clear q1
      go_upto_region 11 with fail
      clear q3
      go_loopw [88] (fun v88 wr => ∃ j : Nat, j ≤ L ∧ v88 = .int .i64 (j : Int) ∧ Below W5.heap.size W5 wr) (fun v88 _ => (L - intOf v88).toNat)
      case atStart => exact ⟨0, Nat.zero_le _, rfl, be_refl _⟩
      case round =>
        obtain ⟨j, hj, rfl, hB⟩ := hrel
        have B6 := hide hB
        clear hB
        by_cases hlt : j < L
        · have p1 : ((j : Int) < (L : Int)) = True := eq_true (by omega)
          have p0 : (0 : Int) ≤ (j : Int) := by omega
          have p2 : (j : Int) < (L : Int) := by omega
          obtain ⟨⟨c1, c2⟩, hc⟩ : ∃ e, cs[j]? = some e := ⟨_, List.getElem?_eq_getElem (by have := HN.out; omega)⟩
          obtain ⟨h1, h2, h3, h4⟩ := HCS.out wr B6.out
          obtain ⟨x0, x1⟩ := rd_at h1 hc
          have HC := hide hc
          have HJ := hide (And.intro hlt hj)
          clear hc h1 h2 h3 h4 hlt hj
          go_upto_region 14 with fail
          obtain ⟨wb, hwb⟩ : ∃ wb, wb = wr.heap.size := ⟨_, rfl⟩
          rw [← hwb]
          refine wp_letter (fun M => Below W5.heap.size W5 M ∧ W5.heap.size ≤ wb ∧ M.heap[wb]? = some (.cells #[.int .i32 c1, .int .i64 c2] 23 (0, 0))) ⟨be_alloc B6.out B6.out.size, by rw [hwb]; exact B6.out.size, bs_new hwb⟩ ?_
          rintro M ⟨hM1, hM2, hM3⟩
          clear x0 x1 hwb
          have BM := hide hM1
          have BL := hide hM2
          have BK := hide hM3
          obtain ⟨m0, m1, mf⟩ := cells2 hM3
          have hls := HK.out
          have hne := fun (w : World) (a b c d : Int) => cell_neq w (a, b) (c, d)
          have hb : (del (ins cs x N) x N)[j]? = if L - N ≤ j then some blk else some (c1, c2) := by
            rw [back_get _ _ _ _ (by rw [HN.out]; exact hls) (by rw [HN.out]; exact HJ.out.1), HN.out, HC.out]
          have tx : (0 : Int) ≤ (x : Int) := by omega
          have b1 : (L : Int) ≤ 200 := by have := HL.out; omega
          have b2 : (N : Int) ≤ (L : Int) := by omega
          have b3 : (x : Int) + (N : Int) ≤ (L : Int) := by omega
          have w1 : IntKind.i64.wrap ((x : Int) + (N : Int)) = (x : Int) + (N : Int) := by have := HL.out; rw [IntKind.wrap_i64]; omega
          have HJ1 := hide (show wrap64 ((j : Int) + 1) = (j : Int) + 1 by have := HL.out; have := HJ.out; unfold wrap64; omega)
          have ways : (j < x ∧ ¬ L - N ≤ j) ∨ ((x ≤ j ∧ j < x + N) ∧ L - N ≤ j) ∨ ((x ≤ j ∧ j < x + N) ∧ ¬ L - N ≤ j) ∨ (x + N ≤ j ∧ L - N ≤ j) ∨ (x + N ≤ j ∧ ¬ L - N ≤ j) := by omega
          clear hM1 hM2 hM3
          rcases ways with ⟨t1, t2⟩ | ⟨⟨t1, t3⟩, t2⟩ | ⟨⟨t1, t3⟩, t2⟩ | ⟨t1, t2⟩ | ⟨t1, t2⟩
          · have s1 : ((L : Int) - (N : Int) ≤ (j : Int)) = False := eq_false (by omega)
            have s0 : ((j : Int) < (x : Int)) = True := eq_true (by omega)
            have s2 : ((x : Int) ≤ (j : Int)) = False := eq_false (by omega)
            have TT := hide (And.intro t1 t2)
            have HB5 := hide hb
            clear t1 t2 hb hls
            go_upto_region 16 with fail
            refine wp_letter (fun M2 => Below W5.heap.size W5 M2 ∧ M2.heap[wb]? = some (.cells #[.int .i32 c1, .int .i64 c2] 23 (0, 0))) ⟨by first | exact be_set (be_set BM.out (by have := BL.out; dsimp only; omega)) (by have := BL.out; dsimp only; omega) | exact BM.out, by first | exact BK.out | exact bs_eq (bs_same (bs_same BK.out)) rfl⟩ ?_
            rintro M2 ⟨hM1, hM3⟩
            clear m0 m1 mf
            obtain ⟨m0, m1, mf⟩ := cells2 hM3
            obtain ⟨h1, h2, h3, h4⟩ := HCS.out M2 hM1
            obtain ⟨x0, x1⟩ := rd_at h1 HC.out
            have B9 := hide hM1
            obtain ⟨t1, t2⟩ := TT.out
            have hb := HB5.out
            have hls := HK.out
            rw [if_neg t2] at hb
            obtain ⟨z0, z1⟩ := h3 j (c1, c2) hb
            obtain ⟨y0, y1⟩ := h2 j (c1, c2) (by rw [ins_get _ _ _ _ (by rw [HN.out]; exact hls) (by rw [HN.out]; exact HJ.out.1), if_pos t1]; exact HC.out)
            obtain ⟨d0, d1⟩ := h4 j (c1, c2) (by rw [del_get _ _ _ _ (by rw [HN.out]; exact hls) (by rw [HN.out]; exact HJ.out.1), HN.out, if_neg t2, if_pos t1]; exact HC.out)
            clear t1 t2 hb h1 h2 h3 h4 hls hM1 hM3
            go_quiet (fail)
            go_wp2
            refine ⟨⟨j + 1, by have := HJ.out; omega, by simp, be_drewN B9.out⟩, ?_⟩
            simp only [intOf]; have := HJ.out; omega
          · have s1 : ((L : Int) - (N : Int) ≤ (j : Int)) = True := eq_true (by omega)
            have s0 : ((j : Int) < (x : Int)) = False := eq_false (by omega)
            have s2 : ((x : Int) ≤ (j : Int)) = True := eq_true (by omega)
            have s3 : ((j : Int) < (x : Int) + (N : Int)) = True := eq_true (by omega)
            have TT := hide (And.intro t1 t2)
            have T3 := hide t3
            have HB5 := hide hb
            clear t1 t2 hb hls t3
            go_upto_region 16 with fail
            refine wp_letter (fun M2 => Below W5.heap.size W5 M2 ∧ M2.heap[wb]? = some (.cells #[.int .i32 32, .int .i64 0] 23 (0, 0))) ⟨by first | exact be_set (be_set BM.out (by have := BL.out; dsimp only; omega)) (by have := BL.out; dsimp only; omega) | exact BM.out, by first | exact BK.out | exact bs_eq (bs_same (bs_same BK.out)) rfl⟩ ?_
            rintro M2 ⟨hM1, hM3⟩
            clear m0 m1 mf
            obtain ⟨m0, m1, mf⟩ := cells2 hM3
            obtain ⟨h1, h2, h3, h4⟩ := HCS.out M2 hM1
            obtain ⟨x0, x1⟩ := rd_at h1 HC.out
            have B9 := hide hM1
            obtain ⟨t1, t2⟩ := TT.out
            have t3 := T3.out
            have hb := HB5.out
            have hls := HK.out
            rw [if_pos t2] at hb
            obtain ⟨z0, z1⟩ := h3 j (32, 0) hb
            obtain ⟨y0, y1⟩ := h2 j (32, 0) (by rw [ins_get _ _ _ _ (by rw [HN.out]; exact hls) (by rw [HN.out]; exact HJ.out.1), if_neg (by omega), if_pos t3]; rfl)
            clear t1 t2 hb h1 h2 h3 h4 hls hM1 hM3 t3
            go_quiet (fail)
            go_wp2
            refine ⟨⟨j + 1, by have := HJ.out; omega, by simp, be_drewN B9.out⟩, ?_⟩
            simp only [intOf]; have := HJ.out; omega
          · have s1 : ((L : Int) - (N : Int) ≤ (j : Int)) = False := eq_false (by omega)
            have s0 : ((j : Int) < (x : Int)) = False := eq_false (by omega)
            have s2 : ((x : Int) ≤ (j : Int)) = True := eq_true (by omega)
            have s3 : ((j : Int) < (x : Int) + (N : Int)) = True := eq_true (by omega)
            have TT := hide (And.intro t1 t2)
            have T3 := hide t3
            have HB5 := hide hb
            clear t1 t2 hb hls t3
            go_upto_region 16 with fail
            refine wp_letter (fun M2 => Below W5.heap.size W5 M2 ∧ M2.heap[wb]? = some (.cells #[.int .i32 c1, .int .i64 c2] 23 (0, 0))) ⟨by first | exact be_set (be_set BM.out (by have := BL.out; dsimp only; omega)) (by have := BL.out; dsimp only; omega) | exact BM.out, by first | exact BK.out | exact bs_eq (bs_same (bs_same BK.out)) rfl⟩ ?_
            rintro M2 ⟨hM1, hM3⟩
            clear m0 m1 mf
            obtain ⟨m0, m1, mf⟩ := cells2 hM3
            obtain ⟨h1, h2, h3, h4⟩ := HCS.out M2 hM1
            obtain ⟨x0, x1⟩ := rd_at h1 HC.out
            have B9 := hide hM1
            obtain ⟨t1, t2⟩ := TT.out
            have t3 := T3.out
            have hb := HB5.out
            have hls := HK.out
            rw [if_neg t2] at hb
            obtain ⟨z0, z1⟩ := h3 j (c1, c2) hb
            obtain ⟨y0, y1⟩ := h2 j (32, 0) (by rw [ins_get _ _ _ _ (by rw [HN.out]; exact hls) (by rw [HN.out]; exact HJ.out.1), if_neg (by omega), if_pos t3]; rfl)
            clear t1 t2 hb h1 h2 h3 h4 hls hM1 hM3 t3
            go_quiet (fail)
            go_wp2
            refine ⟨⟨j + 1, by have := HJ.out; omega, by simp, be_drewN B9.out⟩, ?_⟩
            simp only [intOf]; have := HJ.out; omega
          · have s1 : ((L : Int) - (N : Int) ≤ (j : Int)) = True := eq_true (by omega)
            have s0 : ((j : Int) < (x : Int)) = False := eq_false (by omega)
            have s2 : ((x : Int) ≤ (j : Int)) = True := eq_true (by omega)
            have s3 : ((j : Int) < (x : Int) + (N : Int)) = False := eq_false (by omega)
            have TT := hide (And.intro t1 t2)
            have HB5 := hide hb
            clear t1 t2 hb hls
            go_upto_region 16 with fail
            refine wp_letter (fun M2 => Below W5.heap.size W5 M2 ∧ M2.heap[wb]? = some (.cells #[.int .i32 32, .int .i64 0] 23 (0, 0))) ⟨by first | exact be_set (be_set BM.out (by have := BL.out; dsimp only; omega)) (by have := BL.out; dsimp only; omega) | exact BM.out, by first | exact BK.out | exact bs_eq (bs_same (bs_same BK.out)) rfl⟩ ?_
            rintro M2 ⟨hM1, hM3⟩
            clear m0 m1 mf
            obtain ⟨m0, m1, mf⟩ := cells2 hM3
            obtain ⟨h1, h2, h3, h4⟩ := HCS.out M2 hM1
            obtain ⟨x0, x1⟩ := rd_at h1 HC.out
            have B9 := hide hM1
            obtain ⟨t1, t2⟩ := TT.out
            have hb := HB5.out
            have hls := HK.out
            rw [if_pos t2] at hb
            obtain ⟨z0, z1⟩ := h3 j (32, 0) hb
            clear t1 t2 hb h1 h2 h3 h4 hls hM1 hM3
            go_quiet (fail)
            go_wp2
            refine ⟨⟨j + 1, by have := HJ.out; omega, by simp, be_drewN B9.out⟩, ?_⟩
            simp only [intOf]; have := HJ.out; omega
          · have s1 : ((L : Int) - (N : Int) ≤ (j : Int)) = False := eq_false (by omega)
            have s0 : ((j : Int) < (x : Int)) = False := eq_false (by omega)
            have s2 : ((x : Int) ≤ (j : Int)) = True := eq_true (by omega)
            have s3 : ((j : Int) < (x : Int) + (N : Int)) = False := eq_false (by omega)
            have TT := hide (And.intro t1 t2)
            have HB5 := hide hb
            clear t1 t2 hb hls
            go_upto_region 16 with fail
            refine wp_letter (fun M2 => Below W5.heap.size W5 M2 ∧ M2.heap[wb]? = some (.cells #[.int .i32 c1, .int .i64 c2] 23 (0, 0))) ⟨by first | exact be_set (be_set BM.out (by have := BL.out; dsimp only; omega)) (by have := BL.out; dsimp only; omega) | exact BM.out, by first | exact BK.out | exact bs_eq (bs_same (bs_same BK.out)) rfl⟩ ?_
            rintro M2 ⟨hM1, hM3⟩
            clear m0 m1 mf
            obtain ⟨m0, m1, mf⟩ := cells2 hM3
            obtain ⟨h1, h2, h3, h4⟩ := HCS.out M2 hM1
            obtain ⟨x0, x1⟩ := rd_at h1 HC.out
            have B9 := hide hM1
            obtain ⟨t1, t2⟩ := TT.out
            have hb := HB5.out
            have hls := HK.out
            rw [if_neg t2] at hb
            obtain ⟨z0, z1⟩ := h3 j (c1, c2) hb
            clear t1 t2 hb h1 h2 h3 h4 hls hM1 hM3
            go_quiet (fail)
            go_wp2
            refine ⟨⟨j + 1, by have := HJ.out; omega, by simp, be_drewN B9.out⟩, ?_⟩
            simp only [intOf]; have := HJ.out; omega
        · have p1 : ((j : Int) < (L : Int)) = False := eq_false (by omega)
          clear hlt hj
          go_wp2_with (go_at_call 12; refine (awake_calls _).mono ?_; rintro e W8 ⟨rfl, hb8⟩)
          go_ret
          have B7 := be_call B6.out B5.out.size B5.out
          exact ⟨rfl, be_call hb8 B7.size B7⟩
end Go.Proofs.Yteelcbjapbhogaa.RowsLongW

