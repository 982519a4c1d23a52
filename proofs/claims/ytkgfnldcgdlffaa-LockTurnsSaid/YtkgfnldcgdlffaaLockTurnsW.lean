/- LockTurns: for every number of readers and every writer the law returns true: without a condition. -/
import Derived.Test.YtkgfnldcgdlffaaWWords
import Derived.Test.YtkgfnldcgdlffaaWLast
import Derived.Test.YtkgfnldcgdlffaaLockAwake
namespace Go.Proofs.Ytkgfnldcgdlffaa.LockTurnsW
open Go Go.RowKit Go.Proofs.YtkgfnldcgdlffaaKit Go.Proofs.Ytkgfnldcgdlffaa.Mem Go.Proofs.Ytkgfnldcgdlffaa.LockKeys Go.Proofs.Ytkgfnldcgdlffaa.LockBase Go.Proofs.Ytkgfnldcgdlffaa.LockAwake Go.Proofs.YtkgfnldcgdlffaaW.PrintWords Go.Proofs.YtkgfnldcgdlffaaW.PrintLast
set_option linter.unusedVariables false
set_option linter.unusedSimpArgs false
theorem wf_small {x : Int} (h0 : -9000000000000000000 ≤ x) (h1 : x ≤ 9000000000000000000) : (Lit.int .i64 x).wf = true := WalkArith.wf_i64 (by omega)
theorem ne_ins (k : Int) (xs : List Int) : ins k xs ≠ [] := fun e => by have := (mem_ins (k := k) (a := k) (xs := xs)).2 (.inl rfl); rw [e] at this; simp at this
theorem ne_one (x : Int) (h : (Lit.int .i64 x).wf = true) : x ≠ wrap64 (x + 1) := by
  unfold wrap64; omega
set_option maxRecDepth 100000 in
set_option maxHeartbeats 4000000 in
theorem walkR (n who : Int) (w : World) (_ : (Lit.int .i64 n).wf = true) (hw : (Lit.int .i64 who).wf = true) :
    Calls Try.prog 3 #[.int .i64 n, .int .i64 who] w fun e w' => e = .returned (.bool true) ∧ Below w.heap.size w w' := by
  have HN := hide (new_calls w w (Below.refl _ _))
  have HW := hide hw
  have HW1 := hide (ne_one who hw)
  have HWF := hide (wrap64_wf (who + 1))
  clear hw
  go_enter Try.func3, Try.ntmps3
  have hm : 0 ≤ Go.bits .and .i64 n 15 ∧ Go.bits .and .i64 n 15 ≤ 15 := and_range 4 (by omega) n
  obtain ⟨m, hmm⟩ : ∃ m, m = Go.bits .and .i64 n 15 := ⟨_, rfl⟩
  rw [← hmm] at hm
  have HM := hide hm
  have HMM := hide hmm
  clear hm hmm
  go_wp2_with (first
    | (go_at_call 7; with_reducible refine HN.out.mono ?_; rintro e W1 ⟨g, B, rfl, hl, _, _, _⟩; have L0 := hide hl; clear hl)
    | go_in)
  simp only [← HMM.out]
  go_loopw [6] (fun v6 wr => ∃ (i : Int) (xs : List Int), (0 ≤ i ∧ i ≤ m) ∧ v6 = .int .i64 i ∧ Lk w wr g B none xs ∧ (∀ x, x ∈ xs ↔ 0 ≤ x ∧ x < i) ∧ (xs.length : Int) = i) (fun v6 _ => (m - intOf v6).toNat)
  case atStart => exact ⟨0, [], ⟨by omega, HM.out.1⟩, rfl, L0.out, fun x => by simp <;> omega, rfl⟩
  case round =>
    obtain ⟨i, xs, ⟨i0, i1⟩, rfl, hl, hx, hn⟩ := hrel
    have L0 := hide hl
    have HX := hide hx
    have HL := hide hn
    have HI := hide (And.intro i0 i1)
    clear hl hx hn
    by_cases q : i < m
    · have p1 := eq_true q
      have hw : wrap64 (i + 1) = i + 1 := by have := HM.out; unfold wrap64; omega
      have hni : i ∉ xs := fun h => by have := (HX.out i).1 h; omega
      have hlen : ((ins i xs).length : Int) = i + 1 := by rw [len_ins hni]; have := HL.out; push_cast; omega
      have HW2 := hide hw
      have HNI := hide hni
      have HLE := hide hlen
      have HQ := hide q
      have HWI := hide (wf_small (x := i) (by have := HM.out; omega) (by have := HM.out; omega))
      obtain ⟨k, hk⟩ : ∃ k, k = (ins i xs).length := ⟨_, rfl⟩
      have hki : (k : Int) = i + 1 := by rw [hk]; exact hlen
      have HK := hide hk
      have HKI := hide hki
      have hwk : wrap64 (i + 1) = (k : Int) := by rw [hw, hki]
      clear hw hni hlen q i0 i1 hk hki
      go_wp2_with (first
        | (go_at_call 8; refine (read_p i HWI.out w _ g B xs L0.out _ (by have := HL.out; have := HM.out; have := HI.out; omega) HNI.out rfl).mono ?_; rintro e W2 ⟨rfl, hl, ht⟩; have L1 := hide hl; clear hl ht L0)
        | (go_at_call 8; refine (read_no i HWI.out w _ g B none (ins i xs) L1.out (by simp [mem_ins])).mono ?_; rintro e W2 ⟨rfl, hl, ht⟩; have L2 := hide hl; clear hl ht L1)
        | (go_at_call 9; refine (write_no who w _ g B none (ins i xs) L2.out (by simp [ne_ins])).mono ?_; rintro e W2 ⟨rfl, hl, ht⟩; have L3 := hide hl; clear hl ht L2)
        | (go_at_call 10; refine (readers_p k w _ g B none (ins i xs) L3.out (by have := HLE.out; have := HM.out; have := HI.out; omega) HK.out.symm).mono ?_; rintro e W2 ⟨lb, cap, rfl, ho, hb⟩; obtain ⟨q, hq⟩ := sl_to lb k cap; rw [hq]; have L4 := hide (L3.out.then_ hb); clear ho hb L3 hq)
        | go_in)
      refine ⟨⟨i + 1, ins i xs, ⟨by have := HI.out; omega, by have := HQ.out; omega⟩, by rw [HW2.out], L4.out, fun x => by rw [mem_ins, HX.out x]; have := HI.out; omega, HLE.out⟩, ?_⟩
      rw [HW2.out]; simp only [intOf]; have := HQ.out; omega
    · have p1 := eq_false q
      have him : i = m := by omega
      subst him
      have hw1 : wrap64 (i - 1) = i - 1 := by have := HM.out; unfold wrap64; omega
      have HW2 := hide hw1
      clear i1 q i0 hw1
      go_wp2
      simp only [HW2.out]
      go_loopw [7] (fun v7 wr => ∃ (j : Int) (ys : List Int), (-1 ≤ j ∧ j < i) ∧ v7 = .int .i64 j ∧ Lk w wr g B none ys ∧ (∀ x, x ∈ ys ↔ 0 ≤ x ∧ x ≤ j) ∧ ys.length ≤ 100) (fun v7 _ => (1 + intOf v7).toNat)
      case atStart => exact ⟨i - 1, xs, ⟨by have := HI.out; omega, by omega⟩, rfl, L0.out, fun x => by rw [HX.out x]; omega, by have := HL.out; have := HM.out; omega⟩
      case round =>
        obtain ⟨j, ys, ⟨j0, j1⟩, rfl, hl, hx, hn⟩ := hrel
        have M0 := hide hl
        have HY := hide hx
        have HYL := hide hn
        have HJ := hide (And.intro j0 j1)
        clear hl hx hn j0 j1
        by_cases q : 0 ≤ j
        · have p2 := eq_true q
          have hin : j ∈ ys := (HY.out j).2 ⟨q, by omega⟩
          have hw : wrap64 (j - 1) = j - 1 := by have := HM.out; have := HJ.out; unfold wrap64; omega
          have HW3 := hide hw
          have HIN := hide hin
          have HQ := hide q
          have HWJ := hide (wf_small (x := j) (by omega) (by have := HM.out; have := HJ.out; omega))
          clear q hin hw
          by_cases q2 : 0 < j
          · have p3 := eq_true q2
            have HNE := hide (show ers j ys ≠ [] from fun e => by have : (0 : Int) ∈ ers j ys := mem_ers.2 ⟨(HY.out 0).2 ⟨by omega, by omega⟩, by omega⟩; rw [e] at this; simp at this)
            clear q2
            go_wp2_with (first
              | (go_at_call 11; refine (leave_p j HWJ.out w _ g B ys M0.out true _ (by simp [HIN.out]) rfl).mono ?_; rintro e W2 ⟨rfl, hl, ht⟩; have M1 := hide hl; clear hl ht M0)
              | (go_at_call 11; refine (leave_p j HWJ.out w _ g B (ers j ys) M1.out false _ (by simp [mem_ers]) (ers_not (by simp [mem_ers]))).mono ?_; rintro e W2 ⟨rfl, hl, ht⟩; have M2 := hide hl; clear hl ht M1)
              | (go_at_call 9; refine (write_no who w _ g B none (ers j ys) M2.out (by simp [HNE.out])).mono ?_; rintro e W2 ⟨rfl, hl, ht⟩; have M3 := hide hl; clear hl ht M2)
              | go_in)
            refine ⟨⟨j - 1, ers j ys, ⟨by have := HQ.out; omega, by have := HJ.out; omega⟩, by rw [HW3.out], M3.out, fun x => by rw [mem_ers, HY.out x]; omega, Nat.le_trans (len_ers_le _ _) HYL.out⟩, ?_⟩
            rw [HW3.out]; simp only [intOf]; have := HQ.out; omega
          · have p3 := eq_false q2
            clear q2
            go_wp2_with (first
              | (go_at_call 11; refine (leave_p j HWJ.out w _ g B ys M0.out true _ (by simp [HIN.out]) rfl).mono ?_; rintro e W2 ⟨rfl, hl, ht⟩; have M1 := hide hl; clear hl ht M0)
              | (go_at_call 11; refine (leave_p j HWJ.out w _ g B (ers j ys) M1.out false _ (by simp [mem_ers]) (ers_not (by simp [mem_ers]))).mono ?_; rintro e W2 ⟨rfl, hl, ht⟩; have M2 := hide hl; clear hl ht M1)
              | go_in)
            refine ⟨⟨j - 1, ers j ys, ⟨by have := HQ.out; omega, by have := HJ.out; omega⟩, by rw [HW3.out], M2.out, fun x => by rw [mem_ers, HY.out x]; omega, Nat.le_trans (len_ers_le _ _) HYL.out⟩, ?_⟩
            rw [HW3.out]; simp only [intOf]; have := HQ.out; omega
        · have p2 := eq_false q
          have hnil : ys = [] := List.eq_nil_iff_forall_not_mem.2 fun x hx => by have := (HY.out x).1 hx; omega
          subst hnil
          clear q
          have HNW := hide (awake_calls)
          go_wp2_with (first
            | (go_at_call 9; refine (write_yes who w _ g B none [] M0.out rfl rfl).mono ?_; rintro e W2 ⟨rfl, hl, ht⟩; have M1 := hide hl; clear hl ht M0)
            | (go_at_call 9; refine (write_no who w _ g B (some who) [] M1.out rfl).mono ?_; rintro e W2 ⟨rfl, hl, ht⟩; have M2 := hide hl; clear hl ht M1)
            | (go_at_call 9; refine (write_no (wrap64 (who + 1)) w _ g B (some who) [] M2.out rfl).mono ?_; rintro e W2 ⟨rfl, hl, ht⟩; have M3 := hide hl; clear hl ht M2)
            | (go_at_call 8; refine (read_no who HW.out w _ g B (some who) [] M3.out (by simp)).mono ?_; rintro e W2 ⟨rfl, hl, ht⟩; have M4 := hide hl; clear hl ht M3)
            | (go_at_call 11; refine (leave_o (wrap64 (who + 1)) HWF.out w _ g B (some who) [] M4.out who rfl HW1.out (by simp)).mono ?_; rintro e W2 ⟨rfl, hl, ht⟩; have M5 := hide hl; clear hl ht M4)
            | (go_at_call 12; refine (writer_p w _ g B who [] M5.out).mono ?_; rintro e W2 ⟨rfl, hb⟩; have M6 := hide (M5.out.then_ hb); clear hb M5)
            | (go_at_call 11; refine (leave_w who w _ g B (some who) [] M6.out who rfl rfl).mono ?_; rintro e W2 ⟨rfl, hl, ht⟩; have M7 := hide hl; clear hl ht M6)
            | (go_at_call 11; refine (leave_p who HW.out w _ g B [] M7.out false [] rfl rfl).mono ?_; rintro e W2 ⟨rfl, hl, ht⟩; have M8 := hide hl; clear hl ht M7)
            | (go_at_call 8; refine (read_p (wrap64 (who + 1)) HWF.out w _ g B [] M8.out _ (by simp) (by simp) rfl).mono ?_; rintro e W2 ⟨rfl, hl, ht⟩; have M9 := hide hl; clear hl ht M8)
            | (go_at_call 13; refine (awake_calls _).mono ?_; rintro e W2 ⟨rfl, hb⟩; have M10 := hide (M9.out.below.trans (hb.mono M9.out.below.size)); clear hb M9)
            | go_in)
          go_ret
          exact ⟨rfl, M10.out⟩
end Go.Proofs.Ytkgfnldcgdlffaa.LockTurnsW


