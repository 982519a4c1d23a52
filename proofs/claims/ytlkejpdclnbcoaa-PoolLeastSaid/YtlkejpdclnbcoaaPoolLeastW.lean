/- PoolLeast: the free buffer with the least number is taken, whatever was given back; there are always as many free as were not taken: for every number of buffers and whichever are given back, without a condition. -/
import Derived.Test.YtlkejpdclnbcoaaPoolAwake
namespace Go.Proofs.Ytlkejpdclnbcoaa.PoolLeastW
open Go.RowKit Go.Proofs.YtlkejpdclnbcoaaKit Go.Proofs.YtlkejpdclnbcoaaW.PrintWords Go.Proofs.YtlkejpdclnbcoaaW.PrintLast Go.Proofs.Ytlkejpdclnbcoaa.PoolBase Go.Proofs.Ytlkejpdclnbcoaa.PoolGive Go.Proofs.Ytlkejpdclnbcoaa.PoolNew Go.Proofs.Ytlkejpdclnbcoaa.PoolTake Go.Proofs.Ytlkejpdclnbcoaa.PoolAwake
attribute [local go_sem] cell_alloc_some cell_alloc2_some cell_alloc3_some cell_alloc4_some
set_option linter.unusedVariables false
set_option linter.unusedSimpArgs false
def S (n : Nat) (f : Nat → Int × Int × Bool) : List (Int × Int × Bool) := (List.range n).map f
theorem S_len (n : Nat) (f : Nat → Int × Int × Bool) : (S n f).length = n := by simp [S]
theorem S_get (n : Nat) (f : Nat → Int × Int × Bool) (i : Nat) (h : i < n) : (S n f)[i]? = some (f i) := by simp [S, h]
theorem S_congr (n : Nat) (f g : Nat → Int × Int × Bool) (h : ∀ j, j < n → f j = g j) : S n f = S n g := by
  unfold S
  exact List.map_congr_left (fun j hj => h j (List.mem_range.1 hj))
theorem S_set (n : Nat) (f g : Nat → Int × Int × Bool) (i : Nat) (v : Int × Int × Bool) (hv : g i = v) (h : ∀ j, j < n → j ≠ i → f j = g j) : (S n f).set i v = S n g := by
  apply List.ext_getElem?
  intro j
  rw [List.getElem?_set]
  by_cases hj : j < n
  · rw [S_get n g j hj]
    by_cases hij : i = j
    · subst hij
      rw [if_pos rfl, if_pos (by rw [S_len]; exact hj), hv]
    · rw [if_neg hij, S_get n f j hj, h j hj (fun e => hij e.symm)]
  · have e1 : (S n g)[j]? = none := List.getElem?_eq_none (by rw [S_len]; omega)
    have e2 : (S n f)[j]? = none := List.getElem?_eq_none (by rw [S_len]; omega)
    rw [e1, e2]
    by_cases hij : i = j
    · rw [if_pos hij, if_neg (by rw [S_len]; omega)]
    · rw [if_neg hij]
theorem freeN_cons (b : Int × Int × Bool) (bs : List (Int × Int × Bool)) : freeN (b :: bs) = (if b.2.2 = true then 0 else 1) + freeN bs := by
  unfold freeN
  cases h : b.2.2 <;> simp [List.filter_cons, h] <;> omega
theorem freeN_set (bs : List (Int × Int × Bool)) (i : Nat) (b v : Int × Int × Bool) (hb : bs[i]? = some b) (h1 : b.2.2 = true) (h2 : v.2.2 = false) : freeN (bs.set i v) = freeN bs + 1 := by
  induction bs generalizing i with
  | nil => simp at hb
  | cons c bs ih =>
    cases i with
    | zero =>
      simp at hb; subst hb
      rw [List.set_cons_zero, freeN_cons, freeN_cons, h1, h2]
      simp; omega
    | succ i =>
      rw [List.set_cons_succ, freeN_cons, freeN_cons, ih i (by simpa using hb)]
      omega
theorem freeN_none (bs : List (Int × Int × Bool)) (h : ∀ b, b ∈ bs → b.2.2 = true) : freeN bs = 0 := by
  induction bs with
  | nil => rfl
  | cons c bs ih => rw [freeN_cons, h c (by simp), if_pos rfl, ih (fun b hb => h b (by simp [hb]))]; rfl
theorem freeN_in (bs : List (Int × Int × Bool)) : 0 ≤ freeN bs ∧ freeN bs ≤ bs.length := by
  have := freeN_le bs bs.length
  rwa [List.take_length] at this
def A (i j : Nat) : Int × Int × Bool := if j < i then (0, 1, true) else (0, 0, false)
def B (G : Nat → Bool) (r j : Nat) : Int × Int × Bool := (0, 1, !(decide (r ≤ j) && G j))
def C (G : Nat → Bool) (i j : Nat) : Int × Int × Bool := (0, if j < i ∧ G j = true then 2 else 1, !(decide (i ≤ j) && G j))
theorem and7 (n : Int) : ∃ N : Nat, Go.bits .and .i64 n 7 = (N : Int) ∧ N ≤ 7 := by
  have h : 0 ≤ Go.bits .and .i64 n 7 ∧ Go.bits .and .i64 n 7 ≤ 7 := and_range 3 (by omega) n
  exact ⟨(Go.bits .and .i64 n 7).toNat, by omega, by omega⟩
section
variable (w W : World) (g pb : Nat)
theorem newN (n : Nat) (hn : n ≤ 1000) : Calls Try.prog 7 #[.int .i64 (n : Int)] w fun e W' => ∃ g pb, e = .returned (.pointer (some ⟨g, 0, none⟩)) ∧ Pl w W' g pb (S n (A 0)) := by
  have h : List.replicate n ((0 : Int), (0 : Int), false) = S n (A 0) := by
    apply List.ext_getElem?
    intro j
    rw [List.getElem?_replicate]
    by_cases hj : j < n
    · rw [if_pos hj, S_get n _ j hj]; rfl
    · rw [if_neg hj, List.getElem?_eq_none (by rw [S_len]; omega)]
  have := new_calls n w hn
  rwa [h] at this
theorem tkA (n i : Nat) (hi : i < n) (hn : n ≤ 8) (h : Pl w W g pb (S n (A i))) : Calls Try.prog 10 #[.pointer (some ⟨g, 0, none⟩), .agg #[.int .i64 0, .int .i64 0, .slice none 0 0, .int .i64 0, .int .i64 0, .bool false]] W fun e W' => e = .returned (.tuple #[.int .i64 (i : Int), .int .i64 1, .bool true]) ∧ Pl w W' g pb (S n (A (i + 1))) ∧ Fr pb W W' := by
  have := take_yes 0 i 0 0 w W g pb _ h (by rw [S_get n _ i hi]; simp [A]) (fun j hj => ⟨_, S_get n _ j (by omega), by simp [A, hj]⟩) (by omega) (by omega)
  rw [S_set n (A i) (A (i + 1)) i (0, 0 + 1, true) (by simp [A]) (fun j hj hne => by
    unfold A
    by_cases h : j < i
    · rw [if_pos h, if_pos (by omega)]
    · rw [if_neg h, if_neg (by omega)])] at this
  exact this
theorem tkC (G : Nat → Bool) (n i : Nat) (hi : i < n) (hn : n ≤ 8) (hG : G i = true) (h : Pl w W g pb (S n (C G i))) : Calls Try.prog 10 #[.pointer (some ⟨g, 0, none⟩), .agg #[.int .i64 0, .int .i64 0, .slice none 0 0, .int .i64 0, .int .i64 0, .bool false]] W fun e W' => e = .returned (.tuple #[.int .i64 (i : Int), .int .i64 2, .bool true]) ∧ Pl w W' g pb (S n (C G (i + 1))) ∧ Fr pb W W' := by
  have := take_yes 0 i 0 1 w W g pb _ h (by rw [S_get n _ i hi]; simp [C, hG]) (fun j hj => ⟨_, S_get n _ j (by omega), by simp [C]; omega⟩) (by omega) (by omega)
  rw [S_set n (C G i) (C G (i + 1)) i (0, 1 + 1, true) (by simp [C, hG]) (fun j hj hne => by
    unfold C
    have e1 : (j < i + 1 ∧ G j = true) = (j < i ∧ G j = true) := by rw [eq_iff_iff]; constructor <;> (intro h; exact ⟨by omega, h.2⟩)
    have e2 : decide (i + 1 ≤ j) = decide (i ≤ j) := by rw [decide_eq_decide]; omega
    simp only [e1, e2])] at this
  exact this
theorem skC (G : Nat → Bool) (n i : Nat) (hG : G i = false) : S n (C G i) = S n (C G (i + 1)) := by
  apply S_congr
  intro j hj
  unfold C
  by_cases hji : j = i
  · subst hji; simp [hG]
  · have e1 : (j < i + 1 ∧ G j = true) = (j < i ∧ G j = true) := by rw [eq_iff_iff]; constructor <;> (intro h; exact ⟨by omega, h.2⟩)
    have e2 : decide (i + 1 ≤ j) = decide (i ≤ j) := by rw [decide_eq_decide]; omega
    simp only [e1, e2]
theorem gvB (G : Nat → Bool) (n i : Nat) (hi : i < n) (hG : G i = true) (h : Pl w W g pb (S n (B G (i + 1)))) : Calls Try.prog 13 #[.pointer (some ⟨g, 0, none⟩), .int .i64 (i : Int)] W fun e W' => e = .returned (.bool true) ∧ Pl w W' g pb (S n (B G i)) ∧ Fr pb W W' := by
  have hb : (S n (B G (i + 1)))[((i : Nat) : Int).toNat]? = some (0, 1, true) := by rw [Int.toNat_natCast, S_get n _ i hi]; simp [B]
  have := give_yes (i : Int) (0, 1, true) w W g pb _ h (by omega) hb rfl
  rw [Int.toNat_natCast, S_set n (B G (i + 1)) (B G i) i (0, 1, false) (by simp [B, hG]) (fun j hj hne => by
    unfold B
    have e2 : decide (i + 1 ≤ j) = decide (i ≤ j) := by rw [decide_eq_decide]; omega
    simp only [e2])] at this
  exact this
theorem skB (G : Nat → Bool) (n i : Nat) (hG : G i = false) : S n (B G (i + 1)) = S n (B G i) := by
  apply S_congr
  intro j hj
  unfold B
  by_cases hji : j = i
  · subst hji; simp [hG]
  · have e2 : decide (i + 1 ≤ j) = decide (i ≤ j) := by rw [decide_eq_decide]; omega
    simp only [e2]
theorem frB (G : Nat → Bool) (n i : Nat) (hi : i < n) (hG : G i = true) : freeN (S n (B G i)) = freeN (S n (B G (i + 1))) + 1 := by
  have h := freeN_set (S n (B G (i + 1))) i (0, 1, true) (0, 1, false) (by rw [S_get n _ i hi]; simp [B]) rfl rfl
  rw [S_set n (B G (i + 1)) (B G i) i (0, 1, false) (by simp [B, hG]) (fun j hj hne => by
    unfold B
    have e2 : decide (i + 1 ≤ j) = decide (i ≤ j) := by rw [decide_eq_decide]; omega
    simp only [e2])] at h
  exact h
theorem AB (G : Nat → Bool) (n : Nat) : S n (A n) = S n (B G n) := S_congr n _ _ (fun j hj => by unfold A B; rw [if_pos hj]; simp; omega)
theorem BC (G : Nat → Bool) (n : Nat) : S n (B G 0) = S n (C G 0) := S_congr n _ _ (fun j hj => by unfold B C; simp)
theorem fr0 (G : Nat → Bool) (n : Nat) : freeN (S n (B G n)) = 0 := freeN_none _ (fun b hb => by
  obtain ⟨j, hj, rfl⟩ := List.mem_map.1 hb
  have := List.mem_range.1 hj
  simp [B]; omega)
theorem frC (G : Nat → Bool) (n : Nat) : freeN (S n (C G n)) = 0 := freeN_none _ (fun b hb => by
  obtain ⟨j, hj, rfl⟩ := List.mem_map.1 hb
  have := List.mem_range.1 hj
  simp [C]; omega)
theorem tkN (G : Nat → Bool) (n : Nat) (hn : n ≤ 8) (h : Pl w W g pb (S n (C G n))) : Calls Try.prog 10 #[.pointer (some ⟨g, 0, none⟩), .agg #[.int .i64 0, .int .i64 0, .slice none 0 0, .int .i64 0, .int .i64 0, .bool false]] W fun e W' => e = .returned (.tuple #[.int .i64 0, .int .i64 0, .bool false]) ∧ Pl w W' g pb (S n (C G n)) ∧ Below W.heap.size W W' :=
  take_no 0 w W g pb _ h (fun j hj => ⟨_, S_get n _ j (by rwa [S_len] at hj), by rw [S_len] at hj; simp [C]; omega⟩) (by rw [S_len]; omega)
theorem frS (f : Nat → Int × Int × Bool) (n : Nat) (hn : n ≤ 8) (h : Pl w W g pb (S n f)) : Calls Try.prog 15 #[.pointer (some ⟨g, 0, none⟩)] W fun e W' => e = .returned (.int .i64 (freeN (S n f))) ∧ Pl w W' g pb (S n f) ∧ Below W.heap.size W W' := free_calls w W g pb _ h (by rw [S_len]; omega)
end
set_option maxHeartbeats 8000000 in
set_option maxRecDepth 100000 in
theorem walkR (n c : Int) (w : World) (_ : (Lit.int .i64 n).wf = true) (_ : (Lit.int .i64 c).wf = true) :
    Calls Try.prog 5 #[.int .i64 n, .int .i64 c] w fun e w' => e = .returned (.bool true) ∧ Below w.heap.size w w' := by
  obtain ⟨N0, hN, N1⟩ := and7 n
  obtain ⟨N, hNN⟩ : ∃ N : Nat, N = N0 + 1 := ⟨_, rfl⟩
  have hw3 : wrap64 (N : Int) = (N : Int) := by unfold wrap64; omega
  have hw2 : (N0 : Int) + 1 = (N : Int) := by omega
  have HB := hide (show 1 ≤ N ∧ N ≤ 8 by omega)
  have HN := hide (newN w N (by omega))
  obtain ⟨G, hG⟩ : ∃ G : Nat → Bool, G = fun (j : Nat) => (Go.bits .and .i64 (c / 2 ^ min (IntKind.u64.wrap (j : Int)).toNat 64) 1 == 1) := ⟨_, rfl⟩
  have HG := hide hG
  clear hG
  clear hNN N1
  go_enter Try.func5, Try.ntmps5
  go_wp2_with (go_at_call 7; (with_reducible refine (HN.out).mono ?_); rintro e W1 ⟨g, pb, rfl, P⟩; have P1 := hide P; clear P)
  (try rw [hw3])
  go_loopw [6] (fun v6 wr => ∃ i : Nat, i ≤ N ∧ v6 = .int .i64 (i : Int) ∧ Pl w wr g pb (S N (A i))) (fun v6 _ => (N - intOf v6).toNat)
  case atStart => exact ⟨0, by omega, rfl, P1.out⟩
  case round =>
    obtain ⟨i, hi, rfl, hP⟩ := hrel
    have P2 := hide hP
    clear hP
    by_cases hgo : i < N
    · have p1 : ((i : Int) < (N : Int)) = True := eq_true (by omega)
      have hm : wrap64 ((i : Int) + 1) = (i : Int) + 1 := by have := HB.out; unfold wrap64; omega
      have HM := hide hm
      clear hm
      have HGO := hide hgo
      clear hgo
      go_wp2_with (go_at_call 10; (with_reducible refine (tkA w _ g pb N i HGO.out HB.out.2 P2.out).mono ?_); rintro e W3 ⟨rfl, P, _⟩; have P3 := hide P; clear P)
      refine ⟨⟨i + 1, by have := HGO.out; omega, by rw [HM.out]; simp, P3.out⟩, ?_⟩
      rw [HM.out]; simp only [intOf]; have := HGO.out; omega
    · have p1 : ((i : Int) < (N : Int)) = False := eq_false (by omega)
      have hiN : i = N := by omega
      have PA := hide (show Pl w wr g pb (S N (A N)) from hiN ▸ P2.out)
      have hwm : wrap64 ((N : Int) - 1) = (N : Int) - 1 := by have := HB.out; unfold wrap64; omega
      clear hiN hi hgo
      go_upto_region 13 with fail
      (try rw [hwm])
      go_loopw [10, 11] (fun v10 v11 wr => ∃ q : Int, -1 ≤ q ∧ q ≤ N - 1 ∧ v11 = .int .i64 q ∧ v10 = .int .i64 (freeN (S N (B G (q + 1).toNat))) ∧ Pl w wr g pb (S N (B G (q + 1).toNat))) (fun _ v11 _ => (intOf v11 + 1).toNat)
      case atStart =>
        refine ⟨(N : Int) - 1, by have := HB.out; omega, by omega, rfl, ?_, ?_⟩
        · rw [show ((N : Int) - 1 + 1).toNat = N by omega, fr0]
        · rw [show ((N : Int) - 1 + 1).toNat = N by omega, ← AB]
          exact PA.out
      case round =>
        obtain ⟨q, q0, q1, rfl, rfl, hP⟩ := hrel
        by_cases hq : 0 ≤ q
        · obtain ⟨i2, rfl⟩ : ∃ i2 : Nat, q = (i2 : Int) := ⟨q.toNat, by omega⟩
          have P4 := hide (show Pl w wr g pb (S N (B G (i2 + 1))) by rw [show ((i2 : Int) + 1).toNat = i2 + 1 by omega] at hP; exact hP)
          clear hP
          rw [show ((i2 : Int) + 1).toNat = i2 + 1 by omega]
          have p2 : (0 : Int) ≤ (i2 : Int) := hq
          have hi2 : i2 < N := by omega
          have HI2 := hide hi2
          have hw8 : wrap64 ((i2 : Int) - 1) = (i2 : Int) - 1 := by have := HB.out; unfold wrap64; omega
          have hfr : wrap64 (freeN (S N (B G (i2 + 1))) + 1) = freeN (S N (B G (i2 + 1))) + 1 := by
            have := freeN_in (S N (B G (i2 + 1)))
            rw [S_len] at this
            have := HB.out
            unfold wrap64; omega
          have HW8 := hide hw8
          have HFR := hide hfr
          clear hi2 q0 q1 hw8 hfr hq
          go_wp2_with (go_at_call 13; (with_reducible refine (gvB w _ g pb G N i2 HI2.out (by simp only [HG.out]; assumption) P4.out).mono ?_); rintro e W5 ⟨rfl, P, _⟩; have P5 := hide P; clear P)
          · have hGi : G i2 = true := by simp only [HG.out]; assumption
            refine ⟨⟨(i2 : Int) - 1, by omega, by have := HI2.out; omega, by rw [HW8.out], ?_, ?_⟩, ?_⟩
            · rw [show ((i2 : Int) - 1 + 1).toNat = i2 by omega, HFR.out, frB G N i2 HI2.out hGi]
            · rw [show ((i2 : Int) - 1 + 1).toNat = i2 by omega]; exact P5.out
            · rw [HW8.out]; simp only [intOf]; omega
          · have hGi : G i2 = false := by simp only [HG.out]; assumption
            refine ⟨⟨(i2 : Int) - 1, by omega, by have := HI2.out; omega, by rw [HW8.out], ?_, ?_⟩, ?_⟩
            · rw [show ((i2 : Int) - 1 + 1).toNat = i2 by omega, ← skB G N i2 hGi]
            · rw [show ((i2 : Int) - 1 + 1).toNat = i2 by omega, ← skB G N i2 hGi]; exact P4.out
            · rw [HW8.out]; simp only [intOf]; omega
        · obtain rfl : q = -1 := by omega
          have P4 := hide (show Pl w wr g pb (S N (B G 0)) from hP)
          clear hP q0 q1 hq
          rw [show ((-1 : Int) + 1).toNat = 0 from rfl]
          go_wp2_with (go_at_call 15; (with_reducible refine (frS w _ g pb (B G 0) N HB.out.2 P4.out).mono ?_); rintro e W6 ⟨rfl, P, _⟩; have P6 := hide P; clear P)
          go_loopw [12] (fun v12 wr => ∃ i : Nat, i ≤ N ∧ v12 = .int .i64 (i : Int) ∧ Pl w wr g pb (S N (C G i))) (fun v12 _ => (N - intOf v12).toNat)
          case atStart => exact ⟨0, by omega, rfl, by rw [← BC]; exact P6.out⟩
          case round =>
            obtain ⟨i3, hi3, rfl, hP⟩ := hrel
            have P7 := hide hP
            clear hP
            by_cases hgo : i3 < N
            · have p3 : ((i3 : Int) < (N : Int)) = True := eq_true (by omega)
              have hm : wrap64 ((i3 : Int) + 1) = (i3 : Int) + 1 := by have := HB.out; unfold wrap64; omega
              have HM := hide hm
              have HGO := hide hgo
              clear hm hgo hi3
              go_wp2_with (go_at_call 10; (with_reducible refine (tkC w _ g pb G N i3 HGO.out HB.out.2 (by simp only [HG.out]; assumption) P7.out).mono ?_); rintro e W8 ⟨rfl, P, _⟩; have P8 := hide P; clear P)
              · refine ⟨⟨i3 + 1, by have := HGO.out; omega, by rw [HM.out]; simp, P8.out⟩, ?_⟩
                rw [HM.out]; simp only [intOf]; have := HGO.out; omega
              · have hGi : G i3 = false := by simp only [HG.out]; assumption
                refine ⟨⟨i3 + 1, by have := HGO.out; omega, by rw [HM.out]; simp, by rw [← skC G N i3 hGi]; exact P7.out⟩, ?_⟩
                rw [HM.out]; simp only [intOf]; have := HGO.out; omega
            · have p3 : ((i3 : Int) < (N : Int)) = False := eq_false (by omega)
              have hiN3 : i3 = N := by omega
              have PC := hide (show Pl w wr g pb (S N (C G N)) from hiN3 ▸ P7.out)
              clear hiN3 hi3 hgo
              have F0 := hide (frC G N)
              go_wp2_with (first
                | (go_at_call 10; (with_reducible refine (tkN w _ g pb G N HB.out.2 PC.out).mono ?_); rintro e W9 ⟨rfl, P, _⟩; have P9 := hide P; clear P)
                | (go_at_call 15; (with_reducible refine (frS w _ g pb (C G N) N HB.out.2 P9.out).mono ?_); rintro e W10 ⟨rfl, P, _⟩; have P10 := hide P; clear P; rw [F0.out])
                | (go_at_call 12; refine (awake_calls _).mono ?_; rintro e W11 ⟨rfl, hb11⟩))
              go_ret
              exact ⟨rfl, be_call hb11 P10.out.below.size P10.out.below⟩

end Go.Proofs.Ytlkejpdclnbcoaa.PoolLeastW

