/- PoolPlays: buffers are taken, given back, read and told as the document says: for every number and every script, without a condition. -/
import Derived.Test.YtlkejpdclnbcoaaPoolSame
import Derived.Test.YtlkejpdclnbcoaaPoolAwake
namespace Go.Proofs.Ytlkejpdclnbcoaa.PoolPlaysW
open Go Go.RowKit Go.Proofs.YtlkejpdclnbcoaaKit Go.Proofs.Ytlkejpdclnbcoaa.Mem Go.Proofs.YtlkejpdclnbcoaaW.PrintWords Go.Proofs.YtlkejpdclnbcoaaW.PrintLast Go.Proofs.Ytlkejpdclnbcoaa.Inn Go.Proofs.Ytlkejpdclnbcoaa.Split Go.Proofs.Ytlkejpdclnbcoaa.PoolV Go.Proofs.Ytlkejpdclnbcoaa.PoolPlaysM
open Go.Proofs.Ytlkejpdclnbcoaa.PoolBase (Fr far_setCells)
attribute [local go_sem] cell_alloc_some cell_alloc2_some cell_alloc3_some cell_alloc4_some
set_option linter.unusedVariables false
set_option linter.unusedSimpArgs false
theorem and7 (n : Int) : ∃ Y : Int, Go.bits .and .i64 n 7 = Y ∧ 0 ≤ Y ∧ Y ≤ 7 := by
  have h : 0 ≤ Go.bits .and .i64 n 7 ∧ Go.bits .and .i64 n 7 ≤ 7 := and_range 3 (by omega) n
  exact ⟨_, rfl, h.1, h.2⟩
theorem and15 (n : Int) : ∃ K : Nat, Go.bits .and .i64 n 15 = (K : Int) ∧ K ≤ 15 := by
  have h : 0 ≤ Go.bits .and .i64 n 15 ∧ Go.bits .and .i64 n 15 ≤ 15 := and_range 4 (by omega) n
  exact ⟨(Go.bits .and .i64 n 15).toNat, by omega, by omega⟩
theorem and3 (n : Int) : ∃ K : Nat, Go.bits .and .i64 n 3 = (K : Int) ∧ K ≤ 3 := by
  have h : 0 ≤ Go.bits .and .i64 n 3 ∧ Go.bits .and .i64 n 3 ≤ 3 := and_range 2 (by omega) n
  exact ⟨(Go.bits .and .i64 n 3).toNat, by omega, by omega⟩
theorem rd_of_reads {w : World} {k : IntKind} {A : Option Addr} {n : Nat} {xs : List Int} (h : ReadsInt w k A n xs) : Rd w 0 A (xs.map (.int k)) := fun j v hv => by
  rw [List.getElem?_map] at hv
  cases hj : xs[j]? with
  | none => rw [hj] at hv; cases hv
  | some z =>
    rw [hj] at hv
    have hlt := (List.getElem?_eq_some_iff.1 hj).1
    obtain ⟨ad, e, hc⟩ := h.2.2 (by have := h.1; omega)
    have h3 := hc j (by have := h.1; omega)
    have h4 : xs.getD j 0 = z := by rw [List.getD_eq_getElem?_getD, hj]; rfl
    rw [h4] at h3
    exact ⟨ad, e, Nat.zero_le _, h3.trans hv⟩
theorem intInfo : (Try.prog.info? 3).map (fun i => (i.zero, i.size, i.bytes)) = some (some (.int .i64 0), 1, 8) := by kernel_rfl
theorem boolInfo : (Try.prog.info? 4).map (fun i => (i.zero, i.size, i.bytes)) = some (some (.bool false), 1, 1) := by kernel_rfl
theorem made1 (v : Value) (hv : v.cells = #[v]) (m : Nat) : madeCells v.cells (m * 1) = (List.replicate m v).toArray := by
  rw [hv]
  apply Array.ext_getElem?
  intro k
  unfold madeCells
  rw [Array.getElem?_map]
  have ht : (List.replicate m v).toArray[k]? = (List.replicate m v)[k]? := List.getElem?_toArray
  rw [ht, List.getElem?_replicate, Nat.mul_one]
  by_cases hk : k < m
  · rw [Array.getElem?_range, if_pos hk, if_pos hk]
    simp [Nat.mod_one]
  · rw [Array.getElem?_range, if_neg hk, if_neg hk]
    rfl
theorem makeI (m : Nat) (hm : m ≤ 6) (w : World) : (Instr.makeSlice 35 (.int .i64 (m : Int)) (.int .i64 (m : Int))).run Try.prog w = .ok (.slice (some ⟨w.heap.size, 0, none⟩) m m) (w.alloc (.cells (List.replicate m (Value.int .i64 0)).toArray 3)) := by
  obtain ⟨i, hi, hz, hs, hb⟩ := info_parts intInfo
  have h : (i.bytes : Int) * ((m : Nat) : Int) ≤ 281474976710656 := by rw [hb]; omega
  have hr := run_make (P := Try.prog) w 35 3 i _ Try.underlying35 hi hz .i64 .i64 m m (by omega) (by omega) h (by omega)
  simp only [Int.toNat_natCast, hs] at hr
  rw [hr, made1 _ rfl]
theorem makeB (m : Nat) (hm : m ≤ 6) (w : World) : (Instr.makeSlice 57 (.int .i64 (m : Int)) (.int .i64 (m : Int))).run Try.prog w = .ok (.slice (some ⟨w.heap.size, 0, none⟩) m m) (w.alloc (.cells (List.replicate m (Value.bool false)).toArray 4)) := by
  obtain ⟨i, hi, hz, hs, hb⟩ := info_parts boolInfo
  have h : (i.bytes : Int) * ((m : Nat) : Int) ≤ 281474976710656 := by rw [hb]; omega
  have hr := run_make (P := Try.prog) w 57 4 i _ Try.underlying57 hi hz .i64 .i64 m m (by omega) (by omega) h (by omega)
  simp only [Int.toNat_natCast, hs] at hr
  rw [hr, made1 _ rfl]
set_option maxHeartbeats 8000000 in
set_option maxRecDepth 100000 in
theorem walkR (n : Int) (A1 : Option Addr) (len1 c1 : Nat) (z1 : List Int) (w : World) (hn : (Lit.int .i64 n).wf = true)
    (h1 : (A1 = none ∧ len1 = 0 ∧ c1 = 0 ∧ z1 = []) ∨ ∃ x, A1 = some x ∧ len1 ≤ c1 ∧ c1 ≤ maxLen ∧ z1.length = c1 ∧ (∀ i, i < z1.length → w.cell? (x.add i) = some (.int .i64 (z1.getD i 0))) ∧ ∀ n ∈ z1, (Lit.int .i64 n).wf = true) (y1 : len1 * 8 ≤ 140737488351232) :
    Calls Try.prog 6 #[.int .i64 n, .slice A1 len1 c1] w fun e w' => e = .returned (.bool true) ∧ Below w.heap.size w w' := by
  obtain ⟨l, rfl, hr1, _, _⟩ := ReadsInt.ofRow h1
  clear h1 y1 hn
  have R1 := hide (rd_of_reads hr1)
  obtain ⟨L, hL⟩ : ∃ m, l.length = m := ⟨_, rfl⟩
  rw [hL]
  have HL := hide hL
  clear hL hr1
  obtain ⟨Y, hY, hY0, hY7⟩ := and7 n
  obtain ⟨m, hm6, hm⟩ : ∃ m : Nat, m ≤ 6 ∧ ((Y = 0 ∧ m = 0) ∨ (1 ≤ Y ∧ Y - 1 = (m : Int))) := ⟨(Y - 1).toNat, by omega, by omega⟩
  have HNW := hide (fun W => new_any (Y - 1) m W hm6 (by omega))
  have HM := hide hm
  clear hm
  have mkI := makeI m hm6
  have mkB := makeB m hm6
  go_enter Try.func6, Try.ntmps6
  go_upto_region 5 with (go_at_call 7; with_reducible refine (HNW.out _).mono ?_; rintro e W1 ⟨g, pb, rfl, hP⟩; have HP := hide hP; clear hP)
  go_cut [6] (fun v6 wx => v6 = .int .i64 (m : Int) ∧ wx = W1)
  case first =>
    as_aux_lemma =>
    rcases HM.out with ⟨rfl, rfl⟩ | ⟨h1, h2⟩
    · go_wp2
      go_meet
      exact ⟨rfl, rfl⟩
    · have p1 : (Y - 1 < 0) = False := eq_false (by omega)
      go_wp2
      go_meet
      exact ⟨rfl, rfl⟩
  case rest =>
    obtain ⟨rfl, rfl⟩ := hcut
    go_upto_region 6 with fail
    go_cut [7, 8, 9] (fun v7 v8 v9 wx => ∃ bg bu bw : Nat, v7 = .slice (some ⟨bg, 0, none⟩) m m ∧ v8 = .slice (some ⟨bu, 0, none⟩) m m ∧ v9 = .slice (some ⟨bw, 0, none⟩) m m ∧ St w wx g pb bg bu bw m 0 (List.replicate m (false, 0, 0)) (List.replicate m ⟨0, none, 0, 0, [], 0, false⟩))
    case first =>
      as_aux_lemma =>
      go_region
      all_goals
        go_wp2
        go_meet
        refine ⟨_, _, _, rfl, rfl, rfl, st_begin HP.out ?_ ?_ ?_ ?_ (by omega) (by omega) (by omega) (by omega) (by omega) (by omega)⟩
        · have h9 := be_refl wc; (repeat (first | (with_reducible assumption) | with_reducible exact be_refl _ | (with_reducible refine be_set ?_ (by dsimp only; omega)) | (with_reducible apply be_drew) | (with_reducible apply be_drewN) | (with_reducible refine be_alloc ?_ (by first | omega | (simp; omega) | simp)) | (with_reducible refine be_call (by with_reducible assumption) (by first | omega | (simp; omega) | simp) ?_)))
        · (repeat (first | (with_reducible assumption) | (with_reducible apply bs_same) | (with_reducible apply bs_far; case hp => (dsimp only; omega)) | (with_reducible apply bs_drew) | (with_reducible apply bs_drewN) | (with_reducible apply bs_new; (first | (with_reducible rfl) | (simp; done))) | (with_reducible apply bs_alloc) | (with_reducible apply bs_below; (case hb => with_reducible assumption); (case hB => first | omega | (simp; omega) | (simp; done)))))
        · (repeat (first | (with_reducible assumption) | (with_reducible apply bs_same) | (with_reducible apply bs_far; case hp => (dsimp only; omega)) | (with_reducible apply bs_drew) | (with_reducible apply bs_drewN) | (with_reducible apply bs_new; (first | (with_reducible rfl) | (simp; done))) | (with_reducible apply bs_alloc) | (with_reducible apply bs_below; (case hb => with_reducible assumption); (case hB => first | omega | (simp; omega) | (simp; done)))))
        · (repeat (first | (with_reducible assumption) | (with_reducible apply bs_same) | (with_reducible apply bs_far; case hp => (dsimp only; omega)) | (with_reducible apply bs_drew) | (with_reducible apply bs_drewN) | (with_reducible apply bs_new; (first | (with_reducible rfl) | (simp; done))) | (with_reducible apply bs_alloc) | (with_reducible apply bs_below; (case hb => with_reducible assumption); (case hB => first | omega | (simp; omega) | (simp; done)))))
    case rest =>
      obtain ⟨bg, bu, bw, rfl, rfl, rfl, hST⟩ := hcut
      have HST0 := hide hST
      clear hST HP HNW mkI mkB HM hY hY0 hY7
      go_wp2
      go_loopw [10] (fun v10 wr => ∃ (i : Nat) (S : List Sl) (bs : List Bf), i ≤ 80 ∧ i ≤ L ∧ v10 = .int .i64 (i : Int) ∧ St w wr g pb bg bu bw m i S bs) (fun v10 _ => (81 - intOf v10).toNat)
      case atStart => exact ⟨0, _, _, by omega, by omega, rfl, HST0.out⟩
      case round =>
        obtain ⟨i, S, bs, hi8, hiL, rfl, hST⟩ := hrel
        have HST := hide hST
        have hBw := hST.pool.below
        clear HST0 hST
        by_cases hi : i < L
        · by_cases h80 : i < 80
          · have p1 : ((i : Int) < (L : Int)) = True := eq_true (by omega)
            have p2 : ((i : Int) < 80) = True := eq_true (by omega)
            have p0 : (0 : Int) ≤ (i : Int) := by omega
            have p3 : (i : Int) < (L : Int) := by omega
            obtain ⟨x, hx⟩ : ∃ x, l[i]? = some x := ⟨_, List.getElem?_eq_getElem (by have := HL.out; omega)⟩
            obtain ⟨ad, e1, _, x0⟩ := (R1.out.below hBw).at_ i (.int .i64 x) (by simp [hx])
            subst e1
            obtain ⟨K, hK, hK15⟩ := and15 (x / 4)
            obtain ⟨D, hD, hD3⟩ := and3 x
            have hKi : (K : Int) ≤ 15 := by omega
            clear hx
            go_upto_region 11 with fail
            obtain ⟨bz, hbz⟩ : ∃ bz : Int, bz = (K : Int) - 2 := ⟨_, rfl⟩
            rw [← hbz]
            have HBZ := hide hbz
            clear hbz
            obtain ⟨inn, hinn⟩ : ∃ inn : Bool, inn = (decide (0 ≤ bz) && decide (bz < (m : Int))) := ⟨_, rfl⟩
            have HIN := hide hinn
            clear hinn
            go_cut [12] (fun v12 wx => v12 = .bool inn ∧ wx = wr)
            case first =>
              as_aux_lemma =>
              have h := HIN.out
              by_cases q1 : 0 ≤ bz
              · have q1' : (0 ≤ bz) = True := eq_true q1
                by_cases q2 : bz < (m : Int)
                · have q2' : (bz < (m : Int)) = True := eq_true q2
                  rw [decide_eq_true q1, decide_eq_true q2] at h
                  subst h
                  clear q1 q2
                  go_wp2
                  go_meet
                  exact ⟨rfl, rfl⟩
                · have q2' : (bz < (m : Int)) = False := eq_false q2
                  rw [decide_eq_true q1, decide_eq_false q2] at h
                  subst h
                  clear q1 q2
                  go_wp2
                  go_meet
                  exact ⟨rfl, rfl⟩
              · have q1' : (0 ≤ bz) = False := eq_false q1
                rw [decide_eq_false q1] at h
                subst h
                clear q1
                go_wp2
                go_meet
                exact ⟨rfl, rfl⟩
            case rest =>
              as_aux_lemma =>
              obtain ⟨rfl, rfl⟩ := hcut
              go_upto_block 2 with fail
              go_cut [13] (fun v13 wx => ∃ (S' : List Sl) (bs' : List Bf), St w wx g pb bg bu bw m (i + 1) S' bs')
              case first =>
                go_upto_if 134 with fail
                go_cut [134] (fun v134 wx => v134 = .bool (decide (D ≤ 1)) ∧ wx = wc)
                case first =>
                  as_aux_lemma =>
                  have hd : D = 0 ∨ D = 1 ∨ D = 2 ∨ D = 3 := by omega
                  rcases hd with rfl | rfl | rfl | rfl
                  all_goals
                    go_wp2
                    go_meet
                    exact ⟨rfl, rfl⟩
                case rest =>
                  obtain ⟨rfl, rfl⟩ := hcut
                  by_cases hD1 : D ≤ 1
                  · rw [decide_eq_true hD1]
                    as_aux_lemma =>
                    go_upto_region 23 with fail
                    go_wp2
                    go_loopw [13, 14] (fun v13 v14 wq => ∃ j : Nat, j ≤ m ∧ v14 = .int .i64 ((j : Int) - 1) ∧ v13 = .int .i64 (wantFrom S j) ∧ wq = wc) (fun v13 v14 _ => (intOf v14 + 1).toNat)
                    case atStart => exact ⟨m, Nat.le_refl _, rfl, by rw [want_end S m (by have := HST.out.len; omega)], rfl⟩
                    case round =>
                      obtain ⟨j, hjm, rfl, rfl, rfl⟩ := hrel
                      by_cases hj0 : 0 < j
                      · as_aux_lemma =>
                        obtain ⟨q, rfl⟩ : ∃ q, j = q + 1 := ⟨j - 1, by omega⟩
                        have e1 : ((q + 1 : Nat) : Int) - 1 = (q : Int) := by omega
                        rw [e1]
                        have r1 : ((0 : Int) ≤ (q : Int)) = True := eq_true (by omega)
                        have r2 : (0 : Int) ≤ (q : Int) := by omega
                        have r3 : (q : Int) < (m : Int) := by omega
                        obtain ⟨s, hs⟩ : ∃ s, S[q]? = some s := ⟨_, List.getElem?_eq_getElem (by have := HST.out.len; omega)⟩
                        have xu := (HST.out.ar.cell hs).2.1
                        have HWS := hide (want_step S q s hs)
                        have HQ := hide hjm
                        clear e1 hjm hj0
                        cases hs1 : s.1 with
                        | true =>
                          rw [hs1] at xu
                          have hw := HWS.out
                          rw [hs1, if_pos rfl] at hw
                          have HW := hide hw
                          clear hw
                          go_wp2
                          exact ⟨⟨q, by have := HQ.out; omega, rfl, by rw [HW.out], by first | rfl | trivial⟩, by simp only [intOf]; omega⟩
                        | false =>
                          rw [hs1] at xu
                          have hw := HWS.out
                          rw [hs1, if_neg (by decide)] at hw
                          have HW := hide hw
                          clear hw
                          go_wp2
                          exact ⟨⟨q, by have := HQ.out; omega, rfl, by rw [HW.out], by first | rfl | trivial⟩, by simp only [intOf]; omega⟩
                      · have hj : j = 0 := by omega
                        subst hj
                        have r1 : ((0 : Int) ≤ ((0 : Nat) : Int) - 1) = False := eq_false (by omega)
                        have hbi : (i : Int) ≤ 80 := by omega
                        rcases want_cases S S.length 0 (by omega) with ⟨k, s, _, hw, hs, hs1, hpre⟩ | ⟨hw, hall⟩
                        · as_aux_lemma =>
                          rw [hw]
                          obtain ⟨b, hb, hf⟩ := HST.out.rel.at_ hs
                          have hkm : k < m := by have := (List.getElem?_eq_some_iff.1 hs).1; have := HST.out.len; omega
                          have hsb := HST.out.bnd s (List.mem_of_getElem? hs)
                          have hrk : (0 : Int) ≤ (k : Int) := by omega
                          have hrk' : ((0 : Int) ≤ (k : Int)) = True := eq_true hrk
                          have hkm' : (k : Int) < (m : Int) := by omega
                          have HTK := hide (fun (W : World) (o : Option Addr) (c : Nat) (hbl : Below wr.heap.size wr W) (hr : RowsAt W 0 (.slice o 1 c) [[(0, (i : Int))]]) => take_yes ((i : Int) + 1) o 1 c _ k b w W g pb bs (HST.out.pool.below_then hbl) hb (by rw [hf.2.1, hs1]) (fun q hq => by
                            obtain ⟨t, ht, ht1⟩ := hpre q (Nat.zero_le _) hq
                            obtain ⟨c, hc, hcf⟩ := HST.out.rel.at_ ht
                            exact ⟨c, hc, by rw [hcf.2.1, ht1]⟩) (by rw [hf.1]; omega) (by omega) hr (by omega) (by intro r hr; simp at hr; subst hr; simp))
                          have hbg := hf.1
                          rw [hbg] at HTK
                          obtain ⟨G0, hG0⟩ : ∃ G0, G0 = s.2.1 := ⟨_, rfl⟩
                          have HS := hide hs
                          have hG1 : 0 ≤ G0 ∧ G0 ≤ 80 := by omega
                          obtain ⟨hG1, hG2⟩ := hG1
                          have HG0 := hide hG0
                          rw [← hG0] at HTK
                          clear hw hs hpre hb hf hsb hG0 hbg
                          unfold frV at HTK
                          go_wp2_with (go_at_call 10; (with_reducible refine (HTK.out _ _ _ ?hb ?hr).mono ?_); (case hb => have h9 := be_refl wr; (repeat (first | (with_reducible assumption) | with_reducible exact be_refl _ | (with_reducible refine be_set ?_ (by dsimp only; omega)) | (with_reducible apply be_drew) | (with_reducible apply be_drewN) | (with_reducible refine be_alloc ?_ (by first | omega | (simp; omega) | simp)) | (with_reducible refine be_call (by with_reducible assumption) (by first | omega | (simp; omega) | simp) ?_)))); (case hr => exact rows1 (bs_alloc (bs_new rfl)) (bs_new (by simp))); rintro e W2 ⟨q9, c9, rfl, hp9, hf9⟩; have HP9 := hide hp9; have HF9 := hide (Fr.below (show Below wr.heap.size wr _ by have h9 := be_refl wr; (repeat (first | (with_reducible assumption) | with_reducible exact be_refl _ | (with_reducible refine be_set ?_ (by dsimp only; omega)) | (with_reducible apply be_drew) | (with_reducible apply be_drewN) | (with_reducible refine be_alloc ?_ (by first | omega | (simp; omega) | simp)) | (with_reducible refine be_call (by with_reducible assumption) (by first | omega | (simp; omega) | simp) ?_)))) hf9); have ha9 := HST.out.ar2 (be_refl wr) HF9.out; have xg := (ha9.cell HS.out).1; rw [← HG0.out] at xg; have xu := (ha9.cell HS.out).2.1; have xw := (ha9.cell HS.out).2.2; have fg := bs_frozen ha9.cg k; have fu := bs_frozen ha9.cu k; have fw := bs_frozen ha9.cw k; have n1 := ha9.gu; have n2 := ha9.gw; have n3 := ha9.uw; have n4 := Ne.symm ha9.gu; have n5 := Ne.symm ha9.gw; have n6 := Ne.symm ha9.uw; have hst9 := hide (HST.out.took (be_refl wr) HF9.out hp9 HS.out ⟨(by have h7 := HG0.out; dsimp only; omega), rfl, fun _ => ⟨rfl, rfl, rfl⟩⟩); rw [← HG0.out] at hst9; clear hp9 hf9)
                          go_meet
                          exact ⟨_, _, hst9.out⟩
                        · as_aux_lemma =>
                          rw [hw]
                          have HTN := hide (fun (W : World) (v : Value) (hbl : Below wr.heap.size wr W) => take_no ((i : Int) + 1) v w W g pb bs (HST.out.pool.below_then hbl) (fun q hq => by
                            obtain ⟨t, ht, ht1⟩ := hall q (Nat.zero_le _) (by rw [← HST.out.rel.len]; exact hq)
                            obtain ⟨c, hc, hcf⟩ := HST.out.rel.at_ ht
                            exact ⟨c, hc, by rw [hcf.2.1, ht1]⟩) (by rw [HST.out.pl]; omega))
                          clear hw hall
                          unfold frV at HTN
                          go_wp2_with (go_at_call 10; (with_reducible refine (HTN.out _ _ ?hb).mono ?_); (case hb => have h9 := be_refl wr; (repeat (first | (with_reducible assumption) | with_reducible exact be_refl _ | (with_reducible refine be_set ?_ (by dsimp only; omega)) | (with_reducible apply be_drew) | (with_reducible apply be_drewN) | (with_reducible refine be_alloc ?_ (by first | omega | (simp; omega) | simp)) | (with_reducible refine be_call (by with_reducible assumption) (by first | omega | (simp; omega) | simp) ?_)))); rintro e W2 ⟨rfl, hp9, hb9⟩; have HP9 := hide hp9; have HB9 := hide (be_call hb9 (by simp; omega) (show Below wr.heap.size wr _ by have h9 := be_refl wr; (repeat (first | (with_reducible assumption) | with_reducible exact be_refl _ | (with_reducible refine be_set ?_ (by dsimp only; omega)) | (with_reducible apply be_drew) | (with_reducible apply be_drewN) | (with_reducible refine be_alloc ?_ (by first | omega | (simp; omega) | simp)) | (with_reducible refine be_call (by with_reducible assumption) (by first | omega | (simp; omega) | simp) ?_))))); clear hp9 hb9)
                          go_meet
                          exact ⟨S, bs, ⟨HP9.out, HST.out.rel, HST.out.ar.below HB9.out, HST.out.len, HST.out.next.bnd⟩⟩
                  · rw [decide_eq_false hD1]
                    have hbi : (i : Int) ≤ 80 := by omega
                    by_cases hD2 : D = 2
                    · subst hD2
                      cases inn with
                      | false =>
                        as_aux_lemma =>
                        have hbz : bz < 0 ∨ ((bs.length : Nat) : Int) ≤ bz := by
                          have h := HIN.out
                          rw [HST.out.pl]
                          by_cases q1 : 0 ≤ bz
                          · by_cases q2 : bz < (m : Int)
                            · rw [decide_eq_true q1, decide_eq_true q2] at h; cases h
                            · exact .inr (by omega)
                          · exact .inl (by omega)
                        have HG := hide (give_no bz w wc g pb bs HST.out.pool (.inl hbz))
                        clear hbz
                        go_wp2_with (go_at_call 13; with_reducible refine HG.out.mono ?_; rintro e v ⟨rfl, hv⟩; subst v)
                        go_meet
                        exact ⟨S, bs, HST.out.next⟩
                      | true =>
                        as_aux_lemma =>
                        have hbz : 0 ≤ bz ∧ bz < (m : Int) := by
                          have h := HIN.out.symm
                          simp only [Bool.and_eq_true, decide_eq_true_eq] at h
                          exact h
                        obtain ⟨q, hq⟩ : ∃ q : Nat, bz = (q : Int) := ⟨bz.toNat, by omega⟩
                        rw [hq] at hbz
                        obtain ⟨s, hs⟩ : ∃ s, S[q]? = some s := ⟨_, List.getElem?_eq_getElem (by have := HST.out.len; omega)⟩
                        obtain ⟨b, hb, hfb⟩ := HST.out.rel.at_ hs
                        have HS := hide hs
                        have HQ := hide hq
                        have HB := hide hb
                        have HFB := hide hfb
                        have r2 : (0 : Int) ≤ bz := by omega
                        have r3 : bz < (m : Int) := by omega
                        have r4 : Int.toNat bz = q := by omega
                        have xu := (HST.out.ar.cell hs).2.1
                        have n1 := HST.out.ar.gu
                        clear hbz hs hq hb hfb
                        cases hs1 : s.1 with
                        | true =>
                          as_aux_lemma =>
                          rw [hs1] at xu
                          have HG := hide (give_yes bz b w wc g pb bs HST.out.pool r2 (by rw [r4]; exact HB.out) (by rw [HFB.out.2.1, hs1]))
                          rw [r4] at HG
                          go_wp2_with (go_at_call 13; with_reducible refine HG.out.mono ?_; rintro e W2 ⟨rfl, hp9, hf9⟩; have HP9 := hide hp9; have ha9 := HST.out.ar2 (be_refl wc) hf9; have HA9 := hide ha9; have xu9 := (ha9.cell HS.out).2.1; have fu := bs_frozen ha9.cu q; rw [hs1] at xu9; clear hp9 ha9)
                          go_meet
                          refine ⟨_, _, ⟨Pv.other HP9.out HA9.out.cu (.inr rfl) HA9.out.lu, HST.out.rel.set q (b := ⟨0, none, 0, 0, [], b.gen, false⟩) (s := (false, s.2.1, s.2.2)) ⟨HFB.out.1, rfl, fun h => by cases h⟩, HA9.out.used q s HS.out false, by rw [List.length_set, HST.out.len], fun t ht => ?_⟩⟩
                          rcases List.mem_or_eq_of_mem_set ht with ht | rfl
                          · have := HST.out.bnd t ht; omega
                          · have := HST.out.bnd s (List.mem_of_getElem? HS.out); dsimp only; omega
                        | false =>
                          as_aux_lemma =>
                          rw [hs1] at xu
                          have HG := hide (give_no bz w wc g pb bs HST.out.pool (.inr ⟨b, r2, by rw [r4]; exact HB.out, by rw [HFB.out.2.1, hs1]⟩))
                          have fu := bs_frozen HST.out.ar.cu q
                          go_wp2_with (go_at_call 13; with_reducible refine HG.out.mono ?_; rintro e v ⟨rfl, hv⟩; subst v)
                          go_meet
                          refine ⟨_, bs, ⟨Pv.other HST.out.pool HST.out.ar.cu (.inr rfl) HST.out.ar.lu, ?_, HST.out.ar.used q s HS.out false, by rw [List.length_set, HST.out.len], fun t ht => ?_⟩⟩
                          · have e : bs.set q b = bs := by
                              obtain ⟨hl, he⟩ := List.getElem?_eq_some_iff.1 HB.out
                              rw [← he]
                              exact List.set_getElem_self hl
                            rw [← e]
                            exact HST.out.rel.set q ⟨HFB.out.1, by rw [HFB.out.2.1, hs1], fun h => by cases h⟩
                          · rcases List.mem_or_eq_of_mem_set ht with ht | rfl
                            · have := HST.out.bnd t ht; omega
                            · have := HST.out.bnd s (List.mem_of_getElem? HS.out); dsimp only; omega
                    · have hD3' : D = 3 := by omega
                      subst hD3'
                      obtain ⟨Z, hZ, hZ3⟩ := and3 (x / 64)
                      have HSF := hide (fun W => sameFrame_true 0 none none 0 0 0 [] (by omega) (fun r hr => by cases hr) W (RowsAt.nil _ _) (RowsAt.nil _ _))
                      unfold frV at HSF
                      cases inn with
                      | false =>
                        as_aux_lemma =>
                        have hbz : bz < 0 ∨ ((bs.length : Nat) : Int) ≤ bz := by
                          have h := HIN.out
                          rw [HST.out.pl]
                          by_cases q1 : 0 ≤ bz
                          · by_cases q2 : bz < (m : Int)
                            · rw [decide_eq_true q1, decide_eq_true q2] at h; cases h
                            · exact .inr (by omega)
                          · exact .inl (by omega)
                        have HG := hide (read_no bz (Z : Int) w wc g pb bs HST.out.pool (.inl hbz))
                        unfold frV at HG
                        clear hbz
                        go_wp2_with (first
                            | (go_at_call 11; (with_reducible refine HG.out.mono ?_); rintro e W2 ⟨rfl, _, hb2⟩; have HB2 := hide hb2; have hz2 := hb2.size; have a9 := HST.out.ar.below hb2; clear a9 hb2)
                            | (go_at_call 16; (with_reducible refine (HSF.out _).mono ?_); rintro e W3 ⟨rfl, hb3⟩; have HB3 := hide (be_call hb3 (by simp; omega) (show Below wc.heap.size wc _ by have h9 := HB2.out; (repeat (first | (with_reducible assumption) | with_reducible exact be_refl _ | (with_reducible refine be_set ?_ (by dsimp only; omega)) | (with_reducible apply be_drew) | (with_reducible apply be_drewN) | (with_reducible refine be_alloc ?_ (by first | omega | (simp; omega) | simp)) | (with_reducible refine be_call (by with_reducible assumption) (by first | omega | (simp; omega) | simp) ?_))))); clear hb3))
                        go_meet
                        exact ⟨S, bs, (HST.out.below HB3.out).next⟩
                      | true =>
                        as_aux_lemma =>
                        have hbz : 0 ≤ bz ∧ bz < (m : Int) := by
                          have h := HIN.out.symm
                          simp only [Bool.and_eq_true, decide_eq_true_eq] at h
                          exact h
                        obtain ⟨q, hq⟩ : ∃ q : Nat, bz = (q : Int) := ⟨bz.toNat, by omega⟩
                        rw [hq] at hbz
                        obtain ⟨s, hs⟩ : ∃ s, S[q]? = some s := ⟨_, List.getElem?_eq_getElem (by have := HST.out.len; omega)⟩
                        obtain ⟨b, hb, hfb⟩ := HST.out.rel.at_ hs
                        have hsb := HST.out.bnd s (List.mem_of_getElem? hs)
                        have HS := hide hs
                        have HQ := hide hq
                        have HB := hide hb
                        have HFB := hide hfb
                        have r2 : (0 : Int) ≤ bz := by omega
                        have r3 : bz < (m : Int) := by omega
                        have r4 : Int.toNat bz = q := by omega
                        obtain ⟨V, hV⟩ : ∃ V, V = s.2.2 := ⟨_, rfl⟩
                        obtain ⟨G0, hG0⟩ : ∃ G0, G0 = s.2.1 := ⟨_, rfl⟩
                        have HV := hide hV
                        have HG0 := hide hG0
                        have hV1 : 0 ≤ V ∧ V ≤ 80 := by omega
                        obtain ⟨hV1, hV2⟩ := hV1
                        clear hbz hs hq hb hfb hV hG0 hsb
                        cases hs1 : s.1 with
                        | false =>
                          as_aux_lemma =>
                          have HG := hide (read_no bz (Z : Int) w wc g pb bs HST.out.pool (.inr ⟨b, r2, by rw [r4]; exact HB.out, .inl (by rw [HFB.out.2.1, hs1])⟩))
                          unfold frV at HG
                          go_wp2_with (first
                            | (go_at_call 11; (with_reducible refine HG.out.mono ?_); rintro e W2 ⟨rfl, _, hb2⟩; have HB2 := hide hb2; have hz2 := hb2.size; have a9 := HST.out.ar.below hb2; have xu9 := (a9.cell HS.out).2.1; rw [hs1] at xu9; clear a9 hb2)
                            | (go_at_call 16; (with_reducible refine (HSF.out _).mono ?_); rintro e W3 ⟨rfl, hb3⟩; have HB3 := hide (be_call hb3 (by simp; omega) (show Below wc.heap.size wc _ by have h9 := HB2.out; (repeat (first | (with_reducible assumption) | with_reducible exact be_refl _ | (with_reducible refine be_set ?_ (by dsimp only; omega)) | (with_reducible apply be_drew) | (with_reducible apply be_drewN) | (with_reducible refine be_alloc ?_ (by first | omega | (simp; omega) | simp)) | (with_reducible refine be_call (by with_reducible assumption) (by first | omega | (simp; omega) | simp) ?_))))); clear hb3))
                          go_meet
                          exact ⟨S, bs, (HST.out.below HB3.out).next⟩
                        | true =>
                          by_cases hgz : G0 = (Z : Int)
                          · as_aux_lemma =>
                            subst hgz
                            obtain ⟨h1, h2, h3⟩ := HFB.out.2.2 hs1
                            have HRY := hide (read_yes bz (Z : Int) b w wc g pb bs HST.out.pool r2 (by rw [r4]; exact HB.out) (by rw [HFB.out.2.1, hs1]) (by rw [HFB.out.1]; exact HG0.out.symm) (by rw [h3]; omega) (by rw [h2]; intro r hr; simp at hr; subst hr; simp))
                            rw [h1, h2, h3, ← HV.out] at HRY
                            unfold frV at HRY
                            clear h1 h2 h3
                            go_upto_region 17 with (go_at_call 11; (with_reducible refine HRY.out.mono ?_); rintro e W2 ⟨q9, k9, rfl, _, hr9, hb2⟩; have HB2 := hide hb2; have HR9 := hide (hr9.lower (Nat.zero_le _)); have hz2 := hb2.size; have HGE := hide (Nat.le_succ_of_le hz2); have a9 := HST.out.ar.below hb2; have xu9 := (a9.cell HS.out).2.1; rw [hs1] at xu9; have xg9 := (a9.cell HS.out).1; rw [← HG0.out] at xg9; clear a9 hb2 hr9)
                            refine wp_letter (fun M => M.heap[W2.heap.size]? = some (.cells #[.int .i64 (V + 1), .int .i64 0, .slice q9 1 k9, .int .i64 0, .int .i64 0, .bool false] 26 (0, 0)) ∧ M.heap[W2.heap.size + 1]? = some (.cells #[.int .i64 0, .int .i64 0, .slice none 0 0, .int .i64 0, .int .i64 0, .bool false] 26 (0, 0)) ∧ RowsAt M 0 (.slice q9 1 k9) [[(0, V)]] ∧ Below wc.heap.size wc M) ⟨?_, ?_, ?_, ?_⟩ ?_
                            · (apply bs_eq; (case h => (repeat (first | (with_reducible assumption) | (with_reducible apply bs_same) | (with_reducible apply bs_far; case hp => (dsimp only; omega)) | (with_reducible apply bs_drew) | (with_reducible apply bs_drewN) | (with_reducible apply bs_new; (first | (with_reducible rfl) | (simp; done))) | (with_reducible apply bs_alloc) | (with_reducible apply bs_below; (case hb => with_reducible assumption); (case hB => first | omega | (simp; omega) | (simp; done)))))); (case e => rfl))
                            · (apply bs_eq; (case h => (repeat (first | (with_reducible assumption) | (with_reducible apply bs_same) | (with_reducible apply bs_far; case hp => (dsimp only; omega)) | (with_reducible apply bs_drew) | (with_reducible apply bs_drewN) | (with_reducible apply bs_new; (first | (with_reducible rfl) | (simp; done))) | (with_reducible apply bs_alloc) | (with_reducible apply bs_below; (case hb => with_reducible assumption); (case hB => first | omega | (simp; omega) | (simp; done)))))); (case e => rfl))
                            · exact HR9.out.below (by have h9 := be_refl W2; (repeat (first | (with_reducible assumption) | with_reducible exact be_refl _ | (with_reducible refine be_set ?_ (by dsimp only; omega)) | (with_reducible apply be_drew) | (with_reducible apply be_drewN) | (with_reducible refine be_alloc ?_ (by first | omega | (simp; omega) | simp)) | (with_reducible refine be_call (by with_reducible assumption) (by first | omega | (simp; omega) | simp) ?_))))
                            · have h9 := HB2.out; (repeat (first | (with_reducible assumption) | with_reducible exact be_refl _ | (with_reducible refine be_set ?_ (by dsimp only; omega)) | (with_reducible apply be_drew) | (with_reducible apply be_drewN) | (with_reducible refine be_alloc ?_ (by first | omega | (simp; omega) | simp)) | (with_reducible refine be_call (by with_reducible assumption) (by first | omega | (simp; omega) | simp) ?_)))
                            obtain ⟨F9, hF9⟩ : ∃ F, F = W2.heap.size := ⟨_, rfl⟩
                            rw [← hF9]
                            rw [← hF9] at HGE
                            clear hF9 HR9 HB2 hz2 xu9 xg9 HRY
                            rintro M ⟨hF, hZr, hR, hBM⟩
                            have aM := HST.out.ar.below hBM
                            have xw := (aM.cell HS.out).2.2
                            rw [← HV.out] at xw
                            have hbwM := bs_lt aM.cw
                            have hBs := bs_lt hZr
                            have hnb : some bw ≠ some (F9 + 1) := fun e => ty_ne aM.cw hZr (by decide) (by injection e)
                            have hw2 : IntKind.i64.wrap (V + 1) = V + 1 := by rw [IntKind.wrap_i64]; omega
                            have HF := hide hF
                            have HZR := hide hZr
                            have HR := hide hR
                            have HBM := hide hBM
                            clear hF hZr hR hBM aM
                            refine wp_region_held (S := Kp M (some (F9 + 1))) (by kernel_rfl) ?_
                            have JD0 := hide (show Below M.heap.size M M.drew from be_drew (be_refl _))
                            have JC0 := hide (Kp.of_below (lb := some (F9 + 1)) JD0.out)
                            change wpAnyH _ _ _ _ _ _ _ _ M.drew
                            refine take_ (i := 0) (v := ?_) rfl (by kernel_rfl) (by kernel_rfl) (by kernel_rfl) (fun _ _ _ h => h) (Or.inl ⟨by rfl, ?_⟩) JC0.out ?_
                            rotate_left
                            · (intro w5 hSw; have k0 := (hSw.cell (p := ⟨bw, q, none⟩) hbwM hnb).trans xw; go_simp; try (with_reducible rfl))
                            try simp only [Act.put, List.setIfInBounds_toArray, List.set_cons_zero, List.set_cons_succ]
                            refine take_ (i := 1) (v := ?_) rfl (by kernel_rfl) (by kernel_rfl) (by kernel_rfl) (fun _ _ _ h => h) (Or.inl ⟨by rfl, ?_⟩) JC0.out ?_
                            rotate_left
                            · (intro w5 hSw; have k0 := (hSw.cell (p := ⟨bw, q, none⟩) hbwM hnb).trans xw; go_simp; try (with_reducible rfl))
                            try simp only [Act.put, List.setIfInBounds_toArray, List.set_cons_zero, List.set_cons_succ]
                            refine take_ (i := 2) (v := ?_) rfl (by kernel_rfl) (by kernel_rfl) (by kernel_rfl) (fun _ _ _ h => h) (Or.inl ⟨by rfl, ?_⟩) JC0.out ?_
                            rotate_left
                            · (intro w5 hSw; have k0 := (hSw.cell (p := ⟨bw, q, none⟩) hbwM hnb).trans xw; go_simp; try (with_reducible rfl))
                            try simp only [Act.put, List.setIfInBounds_toArray, List.set_cons_zero, List.set_cons_succ]
                            refine take_ (i := 3) (v := ?_) rfl (by kernel_rfl) (by kernel_rfl) (by kernel_rfl) (fun _ _ _ h => h) (Or.inl ⟨by rfl, ?_⟩) JC0.out ?_
                            rotate_left
                            · (intro w5 hSw; have k0 := (hSw.cell (p := ⟨bw, q, none⟩) hbwM hnb).trans xw; go_simp; try (with_reducible rfl))
                            try simp only [Act.put, List.setIfInBounds_toArray, List.set_cons_zero, List.set_cons_succ]
                            refine take_ (i := 4) (v := ?_) rfl (by kernel_rfl) (by kernel_rfl) (by kernel_rfl) (fun _ _ _ h => h) (Or.inl ⟨by rfl, ?_⟩) JC0.out ?_
                            rotate_left
                            · (intro w5 hSw; have k0 := (hSw.cell (p := ⟨bw, q, none⟩) hbwM hnb).trans xw; go_simp; try (with_reducible rfl))
                            try simp only [Act.put, List.setIfInBounds_toArray, List.set_cons_zero, List.set_cons_succ]
                            refine take_ (i := 5) (v := ?_) rfl (by kernel_rfl) (by kernel_rfl) (by kernel_rfl) (fun _ _ _ h => h) (Or.inl ⟨by rfl, ?_⟩) JC0.out ?_
                            rotate_left
                            · (intro w5 hSw; have k0 := (hSw.cell (p := ⟨bw, q, none⟩) hbwM hnb).trans xw; go_simp; try (with_reducible rfl))
                            try simp only [Act.put, List.setIfInBounds_toArray, List.set_cons_zero, List.set_cons_succ]
                            refine take_ (i := 6) (v := ?_) rfl (by kernel_rfl) (by kernel_rfl) (by kernel_rfl) (fun _ _ _ h => h) (Or.inl ⟨by rfl, ?_⟩) JC0.out ?_
                            rotate_left
                            · (intro w5 hSw; have k0 := (hSw.cell (p := ⟨bw, q, none⟩) hbwM hnb).trans xw; go_simp; try (with_reducible rfl))
                            try simp only [Act.put, List.setIfInBounds_toArray, List.set_cons_zero, List.set_cons_succ]
                            refine take_ (i := 7) (v := ?_) rfl (by kernel_rfl) (by kernel_rfl) (by kernel_rfl) (fun _ _ _ h => h) (Or.inl ⟨by rfl, ?_⟩) JC0.out ?_
                            rotate_left
                            · (intro w5 hSw; have k0 := (hSw.cell (p := ⟨bw, q, none⟩) hbwM hnb).trans xw; go_simp; try (with_reducible rfl))
                            try simp only [Act.put, List.setIfInBounds_toArray, List.set_cons_zero, List.set_cons_succ]
                            refine take_ (i := 8) (v := ?_) rfl (by kernel_rfl) (by kernel_rfl) (by kernel_rfl) (fun _ _ _ h => h) (Or.inl ⟨by rfl, ?_⟩) JC0.out ?_
                            rotate_left
                            · (intro w5 hSw; have k0 := (hSw.cell (p := ⟨bw, q, none⟩) hbwM hnb).trans xw; go_simp; try (with_reducible rfl))
                            try simp only [Act.put, List.setIfInBounds_toArray, List.set_cons_zero, List.set_cons_succ]
                            refine take_ (i := 9) (v := ?_) rfl (by kernel_rfl) (by kernel_rfl) (by kernel_rfl) (fun _ _ _ h => h) (Or.inl ⟨by rfl, ?_⟩) JC0.out ?_
                            rotate_left
                            · (intro w5 hSw; have k0 := (hSw.cell (p := ⟨bw, q, none⟩) hbwM hnb).trans xw; go_simp; try (with_reducible rfl))
                            try simp only [Act.put, List.setIfInBounds_toArray, List.set_cons_zero, List.set_cons_succ]
                            refine wpAnyH_ready (rs := [10]) (by kernel_rfl) (by simp) ?_
                            refine cons_ rfl (fun K hK => ?_) nil_
                            go_simp
                            refine hK.out _ _ (Kp.of_below (be_alloc JD0.out JD0.out.size)) (fun _ => ?_)
                            try simp only [Act.put, List.setIfInBounds_toArray, List.set_cons_zero, List.set_cons_succ]
                            refine letter_ (fun X => Below M.heap.size M X ∧ X.heap[M.heap.size]? = some (.cells #[.int .i32 0, .int .i64 V] 49 (0, 0))) ⟨be_alloc JD0.out JD0.out.size, bs_new (by simp)⟩ ?_
                            obtain ⟨cc, hcc⟩ : ∃ c, c = M.heap.size := ⟨_, rfl⟩
                            rw [← hcc]
                            have HCC := hide hcc
                            clear hcc
                            rintro X1 ⟨hX1, hC1⟩
                            rw [HCC.out] at hX1
                            have HX1 := hide hX1
                            have HC1 := hide hC1
                            have JC1 := hide (Kp.of_below (lb := some (F9 + 1)) hX1)
                            clear hK hX1 hC1
                            refine wpAnyH_ready (rs := [11]) (by kernel_rfl) (by simp) ?_
                            refine cons_ rfl (fun K hK => ?_) nil_
                            go_simp
                            refine hK.out _ _ (Kp.of_below (be_alloc HX1.out HX1.out.size)) (fun _ => ?_)
                            try simp only [Act.put, List.setIfInBounds_toArray, List.set_cons_zero, List.set_cons_succ]
                            refine letter_ (fun X => Below M.heap.size M X ∧ X.heap[cc]? = some (.cells #[.int .i32 0, .int .i64 V] 49 (0, 0)) ∧ X.heap[X1.heap.size]? = some (.cells #[.slice (some ⟨cc, 0, none⟩) 1 1] 47 (0, 0))) ⟨be_alloc HX1.out HX1.out.size, bs_alloc HC1.out, bs_new rfl⟩ ?_
                            obtain ⟨cd, hcd⟩ : ∃ c, c = X1.heap.size := ⟨_, rfl⟩
                            rw [← hcd]
                            clear hcd
                            rintro X2 ⟨hX2, hC2, hD2⟩
                            have HX2 := hide hX2
                            have HRN := hide (rows1 hC2 hD2)
                            have JC2 := hide (Kp.of_below (lb := some (F9 + 1)) hX2)
                            have hZ2 := bs_below hX2 hBs HZR.out
                            have HZ2 := hide hZ2
                            obtain ⟨y0, y1, y2, y3, y4, y5, yf⟩ := cells6 hZ2
                            have HF2 := hide (bs_below hX2 (bs_lt HF.out) HF.out)
                            have HR2 := hide (HR.out.below hX2)
                            have hBX := be_call hX2 HBM.out.size HBM.out
                            have HBX := hide hBX
                            clear hK hX2 hC2 hD2 hZ2 hBX
                            refine take_ (i := 12) (v := ?_) rfl (by kernel_rfl) (by kernel_rfl) (by kernel_rfl) (fun _ _ _ h => h) (Or.inl ⟨by rfl, ?_⟩) JC2.out ?_
                            rotate_left
                            · (intro w5 hSw; skip; go_simp; try (with_reducible rfl))
                            try simp only [Act.put, List.setIfInBounds_toArray, List.set_cons_zero, List.set_cons_succ]
                            refine wpAnyH_ready (rs := [13]) (by kernel_rfl) (by simp) ?_
                            refine cons_ rfl (fun K hK => ?_) nil_
                            go_simp
                            refine hK.out _ _ (by (repeat (refine Kp.set ?_ _ _)); exact JC2.out) (fun _ => ?_)
                            try simp only [Act.put, List.setIfInBounds_toArray, List.set_cons_zero, List.set_cons_succ]
                            have hneF : F9 ≠ F9 + 1 := by omega
                            have hge : wc.heap.size ≤ F9 + 1 := HGE.out
                            refine letter_ (fun X => X.heap[F9]? = some (.cells #[.int .i64 (V + 1), .int .i64 0, .slice q9 1 k9, .int .i64 0, .int .i64 0, .bool false] 26 (0, 0)) ∧ X.heap[F9 + 1]? = some (.cells #[.int .i64 (V + 1), .int .i64 0, .slice (some ⟨cd, 0, none⟩) 1 1, .int .i64 0, .int .i64 0, .bool false] 26 (0, 0)) ∧ RowsAt X 0 (.slice q9 1 k9) [[(0, V)]] ∧ RowsAt X 0 (.slice (some ⟨cd, 0, none⟩) 1 1) [[(0, V)]] ∧ Below wc.heap.size wc X) ⟨?_, ?_, ?_, ?_, ?_⟩ ?_
                            · have h9 := HF2.out; clear y0 y1 y2 y3 y4 y5 yf; (repeat (first | (with_reducible assumption) | (with_reducible apply bs_same) | (with_reducible apply bs_far; case hp => (dsimp only; omega)) | (with_reducible apply bs_drew) | (with_reducible apply bs_drewN) | (with_reducible apply bs_new; (first | (with_reducible rfl) | (simp; done))) | (with_reducible apply bs_alloc) | (with_reducible apply bs_below; (case hb => with_reducible assumption); (case hB => first | omega | (simp; omega) | (simp; done)))))
                            · have h9 := HZ2.out; clear y0 y1 y2 y3 y4 y5 yf; (apply bs_eq; (case h => (repeat (first | (with_reducible assumption) | (with_reducible apply bs_same) | (with_reducible apply bs_far; case hp => (dsimp only; omega)) | (with_reducible apply bs_drew) | (with_reducible apply bs_drewN) | (with_reducible apply bs_new; (first | (with_reducible rfl) | (simp; done))) | (with_reducible apply bs_alloc) | (with_reducible apply bs_below; (case hb => with_reducible assumption); (case hB => first | omega | (simp; omega) | (simp; done)))))); (case e => rfl))
                            · exact rows_far HR2.out HZ2.out _ _ _ _ _ _
                            · exact rows_far HRN.out HZ2.out _ _ _ _ _ _
                            · have h9 := HBX.out; (repeat (first | (with_reducible assumption) | with_reducible exact be_refl _ | (with_reducible refine be_set ?_ (by dsimp only; omega)) | (with_reducible apply be_drew) | (with_reducible apply be_drewN) | (with_reducible refine be_alloc ?_ (by first | omega | (simp; omega) | simp)) | (with_reducible refine be_call (by with_reducible assumption) (by first | omega | (simp; omega) | simp) ?_)))
                            rintro Y9 ⟨hF, hZr, hR, hRn, hBY⟩
                            clear hK y0 y1 y2 y3 y4 y5 yf JC0 JC1 JC2 JD0
                            have aY := HST.out.ar.below hBY
                            have xu9 := (aY.cell HS.out).2.1
                            rw [hs1] at xu9
                            have xg9 := (aY.cell HS.out).1
                            rw [← HG0.out] at xg9
                            have HSY := hide (sameFrame_true (V + 1) q9 (some ⟨cd, 0, none⟩) 1 k9 1 [[(0, V)]] (by omega) (by intro r hr; simp at hr; subst hr; simp) Y9 hR hRn)
                            unfold frV at HSY
                            have HBY := hide hBY
                            obtain ⟨f0, f1, f2, f3, f4, f5, _⟩ := cells6 hF
                            obtain ⟨y0, y1, y2, y3, y4, y5, _⟩ := cells6 hZr
                            clear hF hZr hR hRn hBY aY xw hw2
                            refine wpAnyH_done (by kernel_rfl) ?_ _
                            go_wp2_with (go_at_call 16; (with_reducible refine HSY.out.mono ?_); rintro e W3 ⟨rfl, hb3⟩; have HB3 := hide (be_call hb3 HBY.out.size HBY.out); clear hb3)
                            go_meet
                            exact ⟨S, bs, (HST.out.below HB3.out).next⟩
                          · as_aux_lemma =>
                            have z1 : ((Z : Int) == G0) = false := by simp; exact fun h => hgz h.symm
                            have z2 : ((Z : Int) = G0) = False := eq_false fun h => hgz h.symm
                            have HG := hide (read_no bz (Z : Int) w wc g pb bs HST.out.pool (.inr ⟨b, r2, by rw [r4]; exact HB.out, .inr (by rw [HFB.out.1, ← HG0.out]; exact hgz)⟩))
                            unfold frV at HG
                            have HGZ := hide hgz
                            clear hgz
                            go_wp2_with (first
                            | (go_at_call 11; (with_reducible refine HG.out.mono ?_); rintro e W2 ⟨rfl, _, hb2⟩; have HB2 := hide hb2; have hz2 := hb2.size; have a9 := HST.out.ar.below hb2; have xu9 := (a9.cell HS.out).2.1; rw [hs1] at xu9; have xg9 := (a9.cell HS.out).1; rw [← HG0.out] at xg9; clear a9 hb2)
                            | (go_at_call 16; (with_reducible refine (HSF.out _).mono ?_); rintro e W3 ⟨rfl, hb3⟩; have HB3 := hide (be_call hb3 (by simp; omega) (show Below wc.heap.size wc _ by have h9 := HB2.out; (repeat (first | (with_reducible assumption) | with_reducible exact be_refl _ | (with_reducible refine be_set ?_ (by dsimp only; omega)) | (with_reducible apply be_drew) | (with_reducible apply be_drewN) | (with_reducible refine be_alloc ?_ (by first | omega | (simp; omega) | simp)) | (with_reducible refine be_call (by with_reducible assumption) (by first | omega | (simp; omega) | simp) ?_))))); clear hb3))
                            go_meet
                            exact ⟨S, bs, (HST.out.below HB3.out).next⟩
              case rest =>
                as_aux_lemma =>
                obtain ⟨S', bs', hST'⟩ := hcut
                have HS2 := hide hST'
                have hpl := hST'.pl
                have hfr := hST'.rel.free
                clear HST hST' hBw x0
                go_wp2
                go_loopw [22, 226] (fun v22 v226 wq => ∃ j : Nat, j ≤ m ∧ v226 = .int .i64 (j : Int) ∧ v22 = .int .i64 (freeS (S'.take j)) ∧ Below wc.heap.size wc wq) (fun _ v226 _ => (m - intOf v226).toNat)
                case atStart => exact ⟨0, Nat.zero_le _, rfl, rfl, be_refl _⟩
                case round =>
                  obtain ⟨j, hjm, rfl, rfl, hbq⟩ := hrel
                  have HBQ := hide hbq
                  by_cases hj : j < m
                  · as_aux_lemma =>
                    have r1 : ((j : Int) < (m : Int)) = True := eq_true (by omega)
                    have r2 : (0 : Int) ≤ (j : Int) := by omega
                    have r3 : (j : Int) < (m : Int) := by omega
                    obtain ⟨s, hs⟩ : ∃ s, S'[j]? = some s := ⟨_, List.getElem?_eq_getElem (by have := HS2.out.len; omega)⟩
                    have xu := ((HS2.out.ar.below hbq).cell hs).2.1
                    have HF := hide (freeS_take S' j s hs)
                    have hle := freeS_le S' j
                    have HJ := hide hj
                    obtain ⟨F, hF⟩ : ∃ F, F = freeS (S'.take j) := ⟨_, rfl⟩
                    rw [← hF] at HF hle ⊢
                    have hF0 := hle.1
                    have hF1 : F ≤ 6 := by omega
                    clear hs hbq hF hle hpl hfr hj
                    cases hs1 : s.1 with
                    | true =>
                      rw [hs1] at xu
                      have hw := HF.out
                      rw [hs1, if_pos rfl, Int.add_zero] at hw
                      have HW := hide hw
                      clear hw
                      go_wp2
                      exact ⟨⟨j + 1, by have := HJ.out; omega, by simp, by rw [HW.out], by first | exact HBQ.out | (have h9 := HBQ.out; have h8 := h9.size; (repeat (first | (with_reducible assumption) | with_reducible exact be_refl _ | (with_reducible refine be_set ?_ (by dsimp only; omega)) | (with_reducible apply be_drew) | (with_reducible apply be_drewN) | (with_reducible refine be_alloc ?_ (by first | omega | (simp; omega) | simp)) | (with_reducible refine be_call (by with_reducible assumption) (by first | omega | (simp; omega) | simp) ?_))))⟩, by simp only [intOf]; have := HJ.out; omega⟩
                    | false =>
                      rw [hs1] at xu
                      have hw := HF.out
                      rw [hs1, if_neg (by decide)] at hw
                      have HW := hide hw
                      clear hw
                      go_wp2
                      exact ⟨⟨j + 1, by have := HJ.out; omega, by simp, by rw [HW.out], by first | exact HBQ.out | (have h9 := HBQ.out; have h8 := h9.size; (repeat (first | (with_reducible assumption) | with_reducible exact be_refl _ | (with_reducible refine be_set ?_ (by dsimp only; omega)) | (with_reducible apply be_drew) | (with_reducible apply be_drewN) | (with_reducible refine be_alloc ?_ (by first | omega | (simp; omega) | simp)) | (with_reducible refine be_call (by with_reducible assumption) (by first | omega | (simp; omega) | simp) ?_))))⟩, by simp only [intOf]; have := HJ.out; omega⟩
                  · have r1 : ((j : Int) < (m : Int)) = False := eq_false (by omega)
                    have hjm2 : j = m := by omega
                    subst hjm2
                    rw [show S'.take j = S' by rw [← HS2.out.len, List.take_length], ← hfr]
                    have hST3 := hide (HS2.out.below hbq)
                    clear HS2 hbq hfr
                    have hFR := hide (free_v w wr g pb bs' hST3.out.pool (by omega))
                    have hF0 := freeN_le bs' bs'.length
                    obtain ⟨F, hF⟩ : ∃ F, F = freeN bs' := ⟨_, rfl⟩
                    rw [← hF] at hFR ⊢
                    clear hF hF0 HBQ
                    cases inn with
                    | false =>
                      have hbz : bz < 0 ∨ ((bs'.length : Nat) : Int) ≤ bz := by
                        have h := HIN.out
                        rw [hpl]
                        by_cases q1 : 0 ≤ bz
                        · by_cases q2 : bz < (j : Int)
                          · rw [decide_eq_true q1, decide_eq_true q2] at h; cases h
                          · exact .inr (by omega)
                        · exact .inl (by omega)
                      have hGN := hide (fun W (hp : Pv w W g pb bs') => gen_v bz 0 w W g pb bs' hp (.inl ⟨hbz, rfl⟩))
                      clear hbz hpl
                      go_wp2_with (first
                        | (go_at_call 15; with_reducible refine hFR.out.mono ?_; rintro e W3 ⟨rfl, hp3, hb3⟩; have HP3 := hide hp3; have HB3 := hide hb3; clear hp3 hb3)
                        | (go_at_call 14; with_reducible refine (hGN.out _ HP3.out).mono ?_; rintro e v ⟨rfl, hv⟩; subst v))
                      exact ⟨⟨i + 1, S', bs', by omega, by omega, by simp, hST3.out.below HB3.out⟩, by simp only [intOf]; omega⟩
                    | true =>
                      have hbz : 0 ≤ bz ∧ bz < (j : Int) := by
                        have h := HIN.out.symm
                        simp only [Bool.and_eq_true, decide_eq_true_eq] at h
                        exact h
                      obtain ⟨q, hq⟩ : ∃ q : Nat, bz = (q : Int) := ⟨bz.toNat, by omega⟩
                      rw [hq] at hbz ⊢
                      obtain ⟨s, hs⟩ : ∃ s, S'[q]? = some s := ⟨_, List.getElem?_eq_getElem (by have := hST3.out.len; omega)⟩
                      obtain ⟨b, hb, hfb⟩ := hST3.out.rel.at_ hs
                      have xg := (hST3.out.ar.cell hs).1
                      have r2 : (0 : Int) ≤ (q : Int) := by omega
                      have r3 : (q : Int) < (j : Int) := hbz.2
                      have hGN := hide (fun W (hp : Pv w W g pb bs') => gen_v (q : Int) s.2.1 w W g pb bs' hp (.inr ⟨b, by omega, by rw [Int.toNat_natCast]; exact hb, hfb.1.symm⟩))
                      clear hbz hpl hs hb hfb hq
                      go_wp2_with (first
                        | (go_at_call 15; with_reducible refine hFR.out.mono ?_; rintro e W3 ⟨rfl, hp3, hb3⟩; have HP3 := hide hp3; have HB3 := hide hb3; clear hp3 hb3)
                        | (go_at_call 14; with_reducible refine (hGN.out _ HP3.out).mono ?_; rintro e v ⟨rfl, hv⟩; subst v))
                      exact ⟨⟨i + 1, S', bs', by omega, by omega, by simp, hST3.out.below HB3.out⟩, by simp only [intOf]; omega⟩
          ·
            as_aux_lemma =>
            have p1 : ((i : Int) < (L : Int)) = True := eq_true (by omega)
            have p2 : ((i : Int) < 80) = False := eq_false (by omega)
            go_wp2_with (go_at_call 12; refine (PoolAwake.awake_calls _).mono ?_; rintro e W8 ⟨rfl, hb8⟩)
            go_ret
            exact ⟨rfl, be_call hb8 hBw.size hBw⟩
        ·
          as_aux_lemma =>
          have p1 : ((i : Int) < (L : Int)) = False := eq_false (by omega)
          go_wp2_with (go_at_call 12; refine (PoolAwake.awake_calls _).mono ?_; rintro e W8 ⟨rfl, hb8⟩)
          go_ret
          exact ⟨rfl, be_call hb8 hBw.size hBw⟩
end Go.Proofs.Ytlkejpdclnbcoaa.PoolPlaysW


