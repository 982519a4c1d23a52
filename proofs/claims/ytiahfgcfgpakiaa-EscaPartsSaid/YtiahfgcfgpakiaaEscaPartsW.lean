/- EscaParts: what is fed in pieces is what is fed at once, wherever it is parted: for every input, without a condition. -/
import Derived.Test.YtiahfgcfgpakiaaEscaLoop
namespace Go.Proofs.Ytiahfgcfgpakiaa.EscaPartsW
open Go Go.RowKit Go.Proofs.YtiahfgcfgpakiaaKit Go.Proofs.Ytiahfgcfgpakiaa.Mem Go.Proofs.YtiahfgcfgpakiaaW.PrintWords Go.Proofs.YtiahfgcfgpakiaaW.PrintLast Go.Proofs.Ytiahfgcfgpakiaa.Split Go.Proofs.Ytiahfgcfgpakiaa.EscaVal
set_option linter.unusedVariables false
set_option linter.unusedSimpArgs false
theorem at_place (x : Int) (N : Nat) : ∃ K : Nat, Int.tmod (Go.bits .and .i64 x 65535) ((N : Int) + 1) = (K : Int) ∧ K ≤ N := by
  have h : 0 ≤ Go.bits .and .i64 x 65535 ∧ Go.bits .and .i64 x 65535 ≤ 65535 := and_range 16 (by omega) x
  rw [Int.tmod_eq_emod_of_nonneg h.1]
  have h1 := Int.emod_nonneg (Go.bits .and .i64 x 65535) (show ((N : Int) + 1) ≠ 0 by omega)
  have h2 := Int.emod_lt_of_pos (Go.bits .and .i64 x 65535) (show 0 < (N : Int) + 1 by omega)
  exact ⟨(Go.bits .and .i64 x 65535 % ((N : Int) + 1)).toNat, by omega, by omega⟩
theorem byte_wf {x : Int} (h : (Lit.int .u8 x).wf = true) : 0 ≤ x ∧ x ≤ 255 := by
  simp [Lit.wf, IntKind.min, IntKind.max, IntKind.signed, IntKind.bits] at h
  omega
def cutN (lo hh N : Nat) : Nat → Nat
  | 0 => 0
  | 1 => lo
  | 2 => hh
  | _ => N
theorem cutN_le {lo hh N j : Nat} (h1 : lo ≤ hh) (h2 : hh ≤ N) (hj : j < 3) : cutN lo hh N j ≤ cutN lo hh N (j + 1) := by
  have hj' : j = 0 ∨ j = 1 ∨ j = 2 := by omega
  rcases hj' with rfl | rfl | rfl
  · exact Nat.zero_le _
  · exact h1
  · exact h2
theorem own_cap {W : World} {base k n cap : Nat} {e : TypeId} {lb : Option Nat} {xs : List Value} (h : Own W base e k lb n cap xs) : n ≤ cap := by
  obtain ⟨hl, h1 | ⟨g, cap', cur, hv, hg, hb, hn, hc, hs, ht⟩⟩ := h.owns
  · rw [h1.2]; exact Nat.zero_le _
  · cases lb with
    | none => simp [sl] at hv
    | some b =>
      simp [sl] at hv
      omega
set_option maxHeartbeats 8000000 in
set_option maxRecDepth 100000 in
theorem walkR (A0 : Option Addr) (len0 c0 : Nat) (z0 : List Int) (A1 : Option Addr) (len1 c1 : Nat) (z1 : List Int) (a b : Int) (w : World)
    (h0 : (A0 = none ∧ len0 = 0 ∧ c0 = 0 ∧ z0 = []) ∨ ∃ x, A0 = some x ∧ len0 ≤ c0 ∧ c0 ≤ maxLen ∧ z0.length = c0 ∧ (∀ i, i < z0.length → w.cell? (x.add i) = some (.int .u8 (z0.getD i 0))) ∧ ∀ n ∈ z0, (Lit.int .u8 n).wf = true) (y0 : len0 * 1 ≤ 140737488351232)
    (h1 : (A1 = none ∧ len1 = 0 ∧ c1 = 0 ∧ z1 = []) ∨ ∃ x, A1 = some x ∧ len1 ≤ c1 ∧ c1 ≤ maxLen ∧ z1.length = c1 ∧ (∀ i, i < z1.length → w.cell? (x.add i) = some (.int .i64 (z1.getD i 0))) ∧ ∀ n ∈ z1, (Lit.int .i64 n).wf = true) (y1 : len1 * 8 ≤ 140737488351232)
    (ha : (Lit.int .i64 a).wf = true) (hb : (Lit.int .i64 b).wf = true) :
    Calls Try.prog 7 #[.slice A0 len0 c0, .slice A1 len1 c1, .int .i64 a, .int .i64 b] w fun e w' => e = .returned (.bool true) ∧ Below w.heap.size w w' := by
  obtain ⟨r, rfl, hr0, _, hw0⟩ := ReadsInt.ofRow h0
  obtain ⟨l, rfl, hr1, _, _⟩ := ReadsInt.ofRow h1
  obtain ⟨i0, hi, hz0, hz1, hz2⟩ := info_parts (show (Try.prog.info? 5).map (fun i => (i.zero, i.size, i.bytes)) = some (some (.int .u8 0), 1, 1) by kernel_rfl)
  clear h0 y0 h1 y1 ha hb
  have R0 := hide (rd_of_reads hr0)
  have R1 := hide (rd_of_reads hr1)
  have hbr : ∀ x ∈ r, 0 ≤ x ∧ x ≤ 255 := fun x hx => byte_wf (hw0 x hx)
  obtain ⟨L0, hL0⟩ : ∃ n, r.length = n := ⟨_, rfl⟩
  obtain ⟨L1, hL1⟩ : ∃ n, l.length = n := ⟨_, rfl⟩
  rw [hL0, hL1]
  have HL0 := hide hL0
  have HL1 := hide hL1
  clear hL0 hL1 hr0 hr1 hw0
  by_cases h5 : 500 < L0
  · have p1 : ((500 : Int) < (L0 : Int)) = True := eq_true (by omega)
    clear h5
    go_enter Try.func7, Try.ntmps7
    go_wp2_with (go_at_call 13; (with_reducible refine (awake_val _).mono ?_); rintro e w5 ⟨rfl, hb5⟩)
    go_ret
    exact ⟨rfl, hb5⟩
  have p1 : ((500 : Int) < (L0 : Int)) = False := eq_false (by omega)
  have hbl := bytesP_len l
  obtain ⟨N1, hN1⟩ : ∃ n, (bytesP l).length = n := ⟨_, rfl⟩
  have HN1 := hide hN1
  rw [hN1] at hbl
  obtain ⟨T, hT⟩ : ∃ T, bytesP l ++ r = T := ⟨_, rfl⟩
  have hTT : ∀ x ∈ T, 0 ≤ x ∧ x ≤ 255 := fun x hx => by
    rw [← hT] at hx
    rcases List.mem_append.1 hx with h | h
    · exact bytesP_ok l x h
    · exact hbr x h
  have HTT := hide hTT
  obtain ⟨N, hN⟩ : ∃ n, N1 + L0 = n := ⟨_, rfl⟩
  have hTN : T.length = N := by rw [← hT, List.length_append, hN1, HL0.out, hN]
  have hN12 : N ≤ 1220 := by omega
  have HTN := hide hTN
  have HNN := hide hN
  have HT := hide hT
  have HBL := hide (And.intro hbl h5)
  obtain ⟨Ka, hKa, hKa2⟩ := at_place a N
  obtain ⟨Kb, hKb, hKb2⟩ := at_place b N
  have HKA := hide hKa
  have HKB := hide hKb
  clear hN1 hbl h5 hTT hbr hTN hN hT hKa hKb
  go_enter Try.func7, Try.ntmps7
  go_upto_region 4 with (first
    | (go_at_call 16; (with_reducible refine (bytes_len l N1 HN1.out L1 HL1.out A1 c1 _ ?hr).mono ?_); (case hr => exact R1.out.below (by (repeat (first | (with_reducible assumption) | with_reducible exact be_refl _ | (with_reducible refine be_set ?_ (by dsimp only; omega)) | (with_reducible apply be_drew) | (with_reducible apply be_drewN) | (with_reducible refine be_alloc ?_ (by first | omega | (simp; omega) | simp)) | (with_reducible refine be_call (by with_reducible assumption) (by first | omega | (simp; omega) | simp) ?_))))); rintro e w9 ⟨lb, cap, o9, rfl, ho9, hO9, hb9⟩; have HO9 := hide hO9; have H9 := hide ho9; have hz9 := hb9.size; (try simp at hz9); clear hO9 ho9)
    | (at_builtin; rw [← H9.out]; refine wpList_append_rd _ rfl (.tmp 25) (.tmp 26) 36 rfl w.heap.size 5 i0 _ 1 1 Try.underlying36 hi hz0 hz1 hz2 rfl (by omega) lb N1 cap ((bytesP l).map (.int .u8)) rfl HO9.out A0 L0 c0 (r.map (.int .u8)) rfl (by simp [HL0.out]) (R0.out.below hb9) (by intro u hu; obtain ⟨x, _, rfl⟩ := List.mem_map.1 hu; rfl) (by have := HBL.out; unfold maxLen; omega) (by have := HBL.out; omega) hz9 ?_; intro lb8 cap8 w8 hO8 hg8 hat8; rw [HNN.out] at hO8 ⊢; obtain ⟨o8, ho8⟩ := sl_to lb8 N cap8; rw [ho8]; have HO8 := hide hO8; have H8 := hide ho8; clear hO8 ho8))
  have hoo : o8 = lb8.map fun b => ⟨b, 0, none⟩ := by have h := H8.out; simp [sl] at h; exact h.symm
  have hcap := own_cap HO8.out
  have hlb : ∀ b, lb = some b → w.heap.size ≤ b := fun b e => by have h := HO9.out; rw [e] at h; exact (own_base h).1
  refine wp_letter (fun W => Rd W 0 o8 (T.map (.int .u8)) ∧ Below w.heap.size w W) ⟨?_, below_grown hb9 hz9 hg8 hlb⟩ ?_
  · rw [hoo, ← HT.out, List.map_append]
    exact (Rd.of HO8.out).lower (Nat.zero_le _)
  have HCAP := hide hcap
  clear hoo hcap hlb HO9 HO8 H9 H8 hb9 hz9 hg8 hat8
  rintro M ⟨hR, hB⟩
  have HR := hide hR
  have HB := hide hB
  clear hR hB
  have hw1 : IntKind.i64.wrap ((N : Int) + 1) = (N : Int) + 1 := by rw [IntKind.wrap_i64]; omega
  have hw2 : IntKind.i64.wrap (Ka : Int) = (Ka : Int) := by rw [IntKind.wrap_i64]; omega
  have hw3 : IntKind.i64.wrap (Kb : Int) = (Kb : Int) := by rw [IntKind.wrap_i64]; omega
  have hKa := HKA.out
  have hKb := HKB.out
  have hN0 : ((N : Int) + 1 == 0) = false := by simp; omega
  go_quiet (fail)
  clear hw1 hw2 hw3 hKa hKb hN0
  go_upto_region 5 with fail
  refine wp_letter (fun W => Rd W 0 o8 (T.map (.int .u8)) ∧ Below w.heap.size w W) ⟨HR.out.below (be_drewN (be_refl _)), be_drewN HB.out⟩ ?_
  clear HR HB
  rintro M2 ⟨hR, hB⟩
  go_cut [10, 11] (fun v10 v11 wx => ∃ lo hh : Nat, v10 = .int .i64 (lo : Int) ∧ v11 = .int .i64 (hh : Int) ∧ lo ≤ hh ∧ hh ≤ N ∧ wx = M2)
  case first =>
    by_cases hab : Kb < Ka
    · have p2 : ((Kb : Int) < (Ka : Int)) = True := eq_true (by omega)
      have p3 : ((Ka : Int) < (Kb : Int)) = False := eq_false (by omega)
      go_wp2
      go_meet
      exact ⟨Kb, Ka, rfl, rfl, by omega, by omega, rfl⟩
    · have p2 : ((Kb : Int) < (Ka : Int)) = False := eq_false (by omega)
      by_cases hab2 : Ka < Kb
      · have p3 : ((Ka : Int) < (Kb : Int)) = True := eq_true (by omega)
        go_wp2
        go_meet
        exact ⟨Ka, Kb, rfl, rfl, by omega, by omega, rfl⟩
      · have p3 : ((Ka : Int) < (Kb : Int)) = False := eq_false (by omega)
        go_wp2
        go_meet
        exact ⟨Ka, Ka, rfl, rfl, by omega, by omega, rfl⟩
  case rest =>
    obtain ⟨lo, hh, rfl, rfl, hlh, hhN, rfl⟩ := hcut
    have HLH := hide (And.intro hlh hhN)
    have HR := hide hR
    have hI := inv_e0.feed T
    have hpar := feed_par wf_e0 T
    have hfl := feed_len e0 T
    obtain ⟨⟨s, x⟩, hs⟩ : ∃ u, feedP e0 T = u := ⟨_, rfl⟩
    rw [hs] at hI hpar hfl
    dsimp only at hI hpar hfl
    obtain ⟨k, hk⟩ : ∃ n, x.length = n := ⟨_, rfl⟩
    rw [HTN.out, hk] at hfl
    have HS := hide hs
    have HI := hide hI
    have HPAR := hide hpar
    have HK := hide (And.intro hk (show k ≤ 1000000 by omega))
    clear hI hpar hfl hs hk hR hlh hhN
    go_upto_region 8 with (go_at_call 11; (with_reducible refine (feed_zero_at T HTT.out (by have := HTN.out; omega) N HTN.out s x HS.out k HK.out.1 o8 cap8 _ ?hr).mono ?_); (case hr => exact HR.out); rintro e w8 ⟨A3, c3, lb3, cap3, o3, ds3, rfl, hc3, hp3, ho3, ha3, hb8⟩; have HP3 := hide (PF.of hp3); have HA3 := hide ha3.ar; have H3 := hide ho3; have hz8 := hb8.size; (try simp at hz8); clear hc3 hp3 ha3 ho3)
    refine wp_letter (fun W => W.heap[w8.heap.size]? = some (.cells (esC s A3 c3) 33 (0, 0)) ∧ (PF W A3 s.ps ∧ AR W lb3 x ds3 ∧ Rd W 0 o8 (T.map (.int .u8))) ∧ Below w.heap.size w W) ⟨?_, ⟨?_, ?_, ?_⟩, ?_⟩ ?_
    · unfold esC; (apply bs_eq; (case h => (repeat (first | (with_reducible assumption) | (with_reducible apply bs_same) | (with_reducible apply bs_far; case hp => (dsimp only; omega)) | (with_reducible apply bs_drew) | (with_reducible apply bs_drewN) | (with_reducible apply bs_new; (first | (with_reducible rfl) | (simp; done))) | (with_reducible apply bs_alloc) | (with_reducible apply bs_below; (case hb => with_reducible assumption); (case hB => first | omega | (simp; omega) | (simp; done)))))); (case e => rfl))
    · exact HP3.out.below (by (repeat (first | (with_reducible assumption) | with_reducible exact be_refl _ | (with_reducible refine be_set ?_ (by dsimp only; omega)) | (with_reducible apply be_drew) | (with_reducible apply be_drewN) | (with_reducible refine be_alloc ?_ (by first | omega | (simp; omega) | simp)) | (with_reducible refine be_call (by with_reducible assumption) (by first | omega | (simp; omega) | simp) ?_))))
    · exact HA3.out.below (by (repeat (first | (with_reducible assumption) | with_reducible exact be_refl _ | (with_reducible refine be_set ?_ (by dsimp only; omega)) | (with_reducible apply be_drew) | (with_reducible apply be_drewN) | (with_reducible refine be_alloc ?_ (by first | omega | (simp; omega) | simp)) | (with_reducible refine be_call (by with_reducible assumption) (by first | omega | (simp; omega) | simp) ?_))))
    · exact HR.out.below (by (repeat (first | (with_reducible assumption) | with_reducible exact be_refl _ | (with_reducible refine be_set ?_ (by dsimp only; omega)) | (with_reducible apply be_drew) | (with_reducible apply be_drewN) | (with_reducible refine be_alloc ?_ (by first | omega | (simp; omega) | simp)) | (with_reducible refine be_call (by with_reducible assumption) (by first | omega | (simp; omega) | simp) ?_))))
    · have := hB.size; (repeat (first | (with_reducible assumption) | with_reducible exact be_refl _ | (with_reducible refine be_set ?_ (by dsimp only; omega)) | (with_reducible apply be_drew) | (with_reducible apply be_drewN) | (with_reducible refine be_alloc ?_ (by first | omega | (simp; omega) | simp)) | (with_reducible refine be_call (by with_reducible assumption) (by first | omega | (simp; omega) | simp) ?_)))
    obtain ⟨G1, hG1⟩ : ∃ G, G = w8.heap.size := ⟨_, rfl⟩
    rw [← hG1]
    clear hG1 HP3 HA3 HR hb8 hz8 hB
    rintro Wb ⟨kG, ⟨hp3, ha3, hr3⟩, hB⟩
    have HG := hide kG
    have HP3 := hide hp3
    have HA3 := hide ha3
    have HR := hide hr3
    have HB := hide hB
    clear kG hp3 ha3 hr3 hB
    go_upto_region 9 with fail
    refine wp_letter (fun W => W.heap[Wb.heap.size]? = some (.cells (esC e0 none 0) 33 (0, 0)) ∧ Below Wb.heap.size Wb W ∧ W.heap.size = Wb.heap.size + 1) ⟨?_, ?_, by simp⟩ ?_
    · show _ = some (Obj.cells esZ _ _); unfold esZ; (apply bs_eq; (case h => (repeat (first | (with_reducible assumption) | (with_reducible apply bs_same) | (with_reducible apply bs_far; case hp => (dsimp only; omega)) | (with_reducible apply bs_drew) | (with_reducible apply bs_drewN) | (with_reducible apply bs_new; (first | (with_reducible rfl) | (simp; done))) | (with_reducible apply bs_alloc) | (with_reducible apply bs_below; (case hb => with_reducible assumption); (case hB => first | omega | (simp; omega) | (simp; done)))))); (case e => rfl))
    · (repeat (first | (with_reducible assumption) | with_reducible exact be_refl _ | (with_reducible refine be_set ?_ (by dsimp only; omega)) | (with_reducible apply be_drew) | (with_reducible apply be_drewN) | (with_reducible refine be_alloc ?_ (by first | omega | (simp; omega) | simp)) | (with_reducible refine be_call (by with_reducible assumption) (by first | omega | (simp; omega) | simp) ?_)))
    rintro M9 ⟨kM, hB, hsz⟩
    have HKM0 := hide kM
    have HBW0 := hide hB
    have q1 : ((lo : Int) ≤ (hh : Int)) = True := eq_true (by have := HLH.out; omega)
    have q2 : ((hh : Int) ≤ (N : Int)) = True := eq_true (by have := HLH.out; omega)
    have q3 : ((lo : Int) ≤ (N : Int)) = True := eq_true (by have := HLH.out; omega)
    have q4 : ((hh : Int) ≤ (cap8 : Int)) = True := eq_true (by have := HLH.out; have := HCAP.out; omega)
    have q5 : ((lo : Int) ≤ (cap8 : Int)) = True := eq_true (by have := HLH.out; have := HCAP.out; omega)
    have q6 : ((N : Int) ≤ (cap8 : Int)) = True := eq_true (by have := HCAP.out; omega)
    have n1 : lo ≤ hh := HLH.out.1
    have n2 : hh ≤ N := HLH.out.2
    have n3 : N ≤ cap8 := HCAP.out
    have n4 : lo ≤ N := Nat.le_trans n1 n2
    have n5 : lo ≤ cap8 := Nat.le_trans n4 n3
    have n6 : hh ≤ cap8 := Nat.le_trans n2 n3
    refine wp_region_held (S := fun W' => Below M9.heap.size M9 W') (by kernel_rfl) ?_
    have JC := hide (show Below M9.heap.size M9 M9.drew from be_drew (be_refl _))
    change wpAnyH _ _ _ _ _ _ _ _ M9.drew
    have HB9 := hide (show Below M9.heap.size M9 M9.drew from be_drew (be_refl _))
    have HKM := hide (bs_drew HKM0.out)
    have HBW := hide (be_drew HBW0.out)
    have hsz : M9.drew.heap.size = Wb.heap.size + 1 := hsz
    clear kM hB HKM0 HBW0
    generalize M9.drew = W0 at *
    refine take_ (i := 0) (v := ?_) rfl (by kernel_rfl) (by kernel_rfl) (by kernel_rfl) (fun _ _ _ h => h) (Or.inl ⟨by rfl, ?_⟩) JC.out ?_
    rotate_left
    · (intro w5 hSw; skip; go_simp; try (with_reducible rfl))
    try simp only [Act.put, List.setIfInBounds_toArray, List.set_cons_zero, List.set_cons_succ]
    refine take_ (i := 1) (v := ?_) rfl (by kernel_rfl) (by kernel_rfl) (by kernel_rfl) (fun _ _ _ h => h) (Or.inl ⟨by rfl, ?_⟩) JC.out ?_
    rotate_left
    · (intro w5 hSw; skip; go_simp; try (with_reducible rfl))
    try simp only [Act.put, List.setIfInBounds_toArray, List.set_cons_zero, List.set_cons_succ]
    refine take_ (i := 2) (v := ?_) rfl (by kernel_rfl) (by kernel_rfl) (by kernel_rfl) (fun _ _ _ h => h) (Or.inl ⟨by rfl, ?_⟩) JC.out ?_
    rotate_left
    · (intro w5 hSw; skip; go_simp; try (with_reducible rfl))
    try simp only [Act.put, List.setIfInBounds_toArray, List.set_cons_zero, List.set_cons_succ]
    refine take_ (i := 3) (v := ?_) rfl (by kernel_rfl) (by kernel_rfl) (by kernel_rfl) (fun _ _ _ h => h) (Or.inl ⟨by rfl, ?_⟩) JC.out ?_
    rotate_left
    · (intro w5 hSw; skip; go_simp; try (with_reducible rfl))
    try simp only [Act.put, List.setIfInBounds_toArray, List.set_cons_zero, List.set_cons_succ]
    refine take_ (i := 4) (v := ?_) rfl (by kernel_rfl) (by kernel_rfl) (by kernel_rfl) (fun _ _ _ h => h) (Or.inl ⟨by rfl, ?_⟩) JC.out ?_
    rotate_left
    · (intro w5 hSw; skip; go_simp; try (with_reducible rfl))
    try simp only [Act.put, List.setIfInBounds_toArray, List.set_cons_zero, List.set_cons_succ]
    refine take_ (i := 5) (v := ?_) rfl (by kernel_rfl) (by kernel_rfl) (by kernel_rfl) (fun _ _ _ h => h) (Or.inl ⟨by rfl, ?_⟩) JC.out ?_
    rotate_left
    · (intro w5 hSw; skip; go_simp; try (with_reducible rfl))
    try simp only [Act.put, List.setIfInBounds_toArray, List.set_cons_zero, List.set_cons_succ]
    refine take_ (i := 6) (v := ?_) rfl (by kernel_rfl) (by kernel_rfl) (by kernel_rfl) (fun _ _ _ h => h) (Or.inl ⟨by rfl, ?_⟩) JC.out ?_
    rotate_left
    · (intro w5 hSw; skip; go_simp; try (with_reducible rfl))
    try simp only [Act.put, List.setIfInBounds_toArray, List.set_cons_zero, List.set_cons_succ]
    refine take_ (i := 7) (v := ?_) rfl (by kernel_rfl) (by kernel_rfl) (by kernel_rfl) (fun _ _ _ h => h) (Or.inl ⟨by rfl, ?_⟩) JC.out ?_
    rotate_left
    · (intro w5 hSw; skip; go_simp; try (with_reducible rfl))
    try simp only [Act.put, List.setIfInBounds_toArray, List.set_cons_zero, List.set_cons_succ]
    refine take_ (i := 8) (v := ?_) rfl (by kernel_rfl) (by kernel_rfl) (by kernel_rfl) (fun _ _ _ h => h) (Or.inl ⟨by rfl, ?_⟩) JC.out ?_
    rotate_left
    · (intro w5 hSw; skip; go_simp; try (with_reducible rfl))
    try simp only [Act.put, List.setIfInBounds_toArray, List.set_cons_zero, List.set_cons_succ]
    refine take_ (i := 9) (v := ?_) rfl (by kernel_rfl) (by kernel_rfl) (by kernel_rfl) (fun _ _ _ h => h) (Or.inl ⟨by rfl, ?_⟩) JC.out ?_
    rotate_left
    · (intro w5 hSw; skip; go_simp; try (with_reducible rfl))
    try simp only [Act.put, List.setIfInBounds_toArray, List.set_cons_zero, List.set_cons_succ]
    refine take_ (i := 12) (v := ?_) rfl (by kernel_rfl) (by kernel_rfl) (by kernel_rfl) (fun _ _ _ h => h) (Or.inl ⟨by rfl, ?_⟩) JC.out ?_
    rotate_left
    · (intro w5 hSw; skip; go_simp; try (with_reducible rfl))
    try simp only [Act.put, List.setIfInBounds_toArray, List.set_cons_zero, List.set_cons_succ]
    obtain ⟨oa, hoa⟩ : ∃ oa, oa = (if cap8 = lo then o8 else Option.map (fun x => x.add lo) o8) := ⟨_, rfl⟩
    obtain ⟨ob, hob⟩ : ∃ ob, ob = (if cap8 = hh then o8 else Option.map (fun x => x.add hh) o8) := ⟨_, rfl⟩
    rw [← hoa, ← hob]
    have hPT : ∀ j, j < 3 → ∃ (oj : Option Addr) (nj cj : Nat), (#[.slice o8 lo cap8, .slice oa (hh - lo) (cap8 - lo), .slice ob (N - hh) (cap8 - hh)] : Array Value)[j]? = some (.slice oj nj cj) ∧ (partOf T (cutN lo hh N j) (cutN lo hh N (j + 1))).length = nj ∧ ∀ W, Rd W 0 o8 (T.map (.int .u8)) → Rd W 0 oj ((partOf T (cutN lo hh N j) (cutN lo hh N (j + 1))).map (.int .u8)) := by
      have hT := HTN.out
      intro j hj
      have hj' : j = 0 ∨ j = 1 ∨ j = 2 := by omega
      rcases hj' with rfl | rfl | rfl
      · exact ⟨o8, lo, cap8, rfl, by show (partOf T 0 lo).length = lo; rw [part_len T (Nat.zero_le _) (show lo ≤ T.length by omega)]; rfl, fun W h => rd_part (a := 0) (cap := cap8) h (by omega) (by by_cases hc : cap8 = 0 <;> simp [hc, cutN]; cases o8 <;> simp [Addr.add])⟩
      · exact ⟨oa, hh - lo, cap8 - lo, rfl, (show (partOf T lo hh).length = hh - lo from part_len T n1 (show hh ≤ T.length by omega)), fun W h => rd_part (cap := cap8) h (by omega) hoa⟩
      · exact ⟨ob, N - hh, cap8 - hh, rfl, (show (partOf T hh N).length = N - hh from part_len T n2 (show N ≤ T.length by omega)), fun W h => rd_part (cap := cap8) h (by omega) hob⟩
    have PT := hide hPT
    have hW0 : W0.heap.size = Wb.heap.size + 1 := hsz
    have hkM := HKM.out
    have hB0 := HBW.out
    clear hPT hoa hob q1 q2 q3 q4 q5 q6 n1 n2 n3 n4 n5 n6
    refine wpAnyH_ready (rs := [10]) (by kernel_rfl) (by simp) ?_
    refine cons_ rfl (fun K hK => ?_) nil_
    go_simp
    refine hK.out _ _ (be_alloc HB9.out HB9.out.size) (fun _ => ?_)
    try simp only [Act.put, List.setIfInBounds_toArray, List.set_cons_zero, List.set_cons_succ]
    try rw [hW0]
    refine letter_ (fun W => LJ Wb (.cells #[.slice o8 lo cap8, .slice oa (hh - lo) (cap8 - lo), .slice ob (N - hh) (cap8 - hh)] 36 (0, 0)) (fun _ => False) e0 none 0 none 0 [] [] W ∧ Below M9.heap.size M9 W) ⟨⟨bs_alloc hkM, by rw [← hW0]; exact bs_new rfl, .nil _ _, Nat.le_refl _, Kd.F_nil _ _ _, be_alloc hB0 hB0.size⟩, be_alloc HB9.out HB9.out.size⟩ ?_
    clear hK hW0 hkM hB0 HB9
    rintro W1 ⟨hLJ, hB1⟩
    have JC := hide hB1
    have HM := hide hLJ
    clear hB1 hLJ
    refine take_ (i := 11) (v := ?_) rfl (by kernel_rfl) (by kernel_rfl) (by kernel_rfl) (fun _ _ _ h => h) (Or.inl ⟨by rfl, ?_⟩) JC.out ?_
    rotate_left
    · (intro w5 hSw; skip; go_simp; try (with_reducible rfl))
    try simp only [Act.put, List.setIfInBounds_toArray, List.set_cons_zero, List.set_cons_succ]
    refine wpAnyH_done (by kernel_rfl) ?_ _
    clear JC
    obtain ⟨i3, hi3, hy0, hy1, hy2⟩ := act_info
    go_wp2
    go_loopw [14, 65] (fun v14 v65 wr => ∃ (j : Nat) (s' : E8) (A' : Option Addr) (c' : Nat) (lb : Option Nat) (cap : Nat) (l : List Act3) (ds : List ActD), j ≤ 3 ∧ v65 = .int .i64 (j : Int) ∧ v14 = sl lb l.length cap ∧ LJ Wb (.cells #[.slice o8 lo cap8, .slice oa (hh - lo) (cap8 - lo), .slice ob (N - hh) (cap8 - hh)] 36 (0, 0)) (fun _ => False) s' A' c' lb cap l ds wr ∧ Wf s' ∧ feedP e0 (T.take (cutN lo hh N j)) = (s', l)) (fun v14 v65 _ => (3 - intOf v65).toNat)
    case atStart => exact ⟨0, e0, none, 0, none, 0, [], [], Nat.zero_le _, rfl, rfl, HM.out, wf_e0, rfl⟩
    case round =>
      obtain ⟨j, s', A', c', lb, cap, l, ds, hj, rfl, rfl, hLI, hws, hsig⟩ := hrel
      obtain ⟨ob2, hob2⟩ := sl_to lb l.length cap
      rw [hob2]
      have HOB := hide hob2
      have HWS := hide hws
      have HSIG := hide hsig
      clear hob2 HM hws hsig
      by_cases hjl : j < 3
      · have r1 : ((j : Int) < 3) = True := eq_true (by omega)
        have r1' : (j : Int) < 3 := by omega
        have r0 : (0 : Int) ≤ (j : Int) := by omega
        obtain ⟨oj, nj, cj, hcj, hnj, hrj⟩ := PT.out j hjl
        have hcx := (cell_of hLI.res j).trans hcj
        have hrd := hrj wr (HR.out.below (be_call hLI.be (Nat.le_refl _) (be_refl Wb)))
        obtain ⟨pt, hpt⟩ : ∃ pt, pt = partOf T (cutN lo hh N j) (cutN lo hh N (j + 1)) := ⟨_, rfl⟩
        have hcut : T.take (cutN lo hh N (j + 1)) = T.take (cutN lo hh N j) ++ pt := by rw [hpt, part_app T (cutN_le HLH.out.1 HLH.out.2 hjl)]
        have hpb : ∀ x ∈ pt, 0 ≤ x ∧ x ≤ 255 := fun x hx => HTT.out x (part_mem (by rw [hpt] at hx; exact hx))
        rw [← hpt] at hnj hrd
        have hnl : nj ≤ 1220 := by rw [← hnj, hpt]; unfold partOf; simp only [List.length_drop, List.length_take]; have := HTN.out; omega
        have SV := hide (feed_next s' HWS.out A' c' pt hpb (by omega) oj nj cj hnj wr _ hLI.lc hLI.par hrd)
        obtain ⟨⟨s2, l2⟩, hu⟩ : ∃ u, feedP s' pt = u := ⟨_, rfl⟩
        have hws2 : Wf s2 := by have h := HWS.out.feed pt; rw [hu] at h; exact h
        have hll : l2.length ≤ 2440 := by have h := feed_len s' pt; rw [hu, hnj] at h; dsimp only at h; omega
        have hlj : l.length ≤ 2440 := by have h := feed_len e0 (T.take (cutN lo hh N j)); rw [HSIG.out, List.length_take] at h; have := HTN.out; dsimp only at h; omega
        have hsg : feedP e0 (T.take (cutN lo hh N (j + 1))) = (s2, l ++ l2) := by rw [hcut, feed_append, HSIG.out, hu]
        rw [hu] at SV
        have HWS2 := hide hws2
        have HSG := hide hsg
        have HLL := hide (And.intro hll hlj)
        have HJ := hide hjl
        have HLI := hide hLI
        have hme := hLI.me
        unfold esC at hme
        obtain ⟨x0, x1, x2, x3, x4, x5, x6, x7, _⟩ := cells8 hme
        clear hcj hrj hrd hpt hcut hpb hnl hu hws2 hll hlj hsg hjl hLI hme hnj hj
        go_upto_region 13 with (go_at_call 11; (with_reducible refine SV.out.mono ?_); rintro e w9 ⟨A2, c2, lb2, cap2, ds2, rfl, hlc2, hF2, ha2, hb9⟩; have HH := hide (And.intro hlc2 (And.intro hF2 ha2)); obtain ⟨o2, ho2⟩ := sl_to lb2 l2.length cap2; dsimp only at ho2 ⊢; rw [ho2]; have HO2 := hide ho2; clear hlc2 hF2 ha2 ho2)
        refine wp_letter (fun W => LM Wb (.cells #[.slice o8 lo cap8, .slice oa (hh - lo) (cap8 - lo), .slice ob (N - hh) (cap8 - hh)] 36 (0, 0)) (fun _ => False) s' A' c' lb cap l ds w9.heap.size s2 A2 c2 lb2 cap2 l2 ds2 wr.heap.size W) (LM.of HLI.out hb9 HH.out.1 (Kd.F_mono HH.out.2.1 (fun k hk => ⟨hk.1.elim False.elim .inr, hk.2⟩)) HH.out.2.2 (be_alloc (be_refl _) (Nat.le_refl _)) (bs_new rfl) hb9.size) ?_
        clear HLI HH hb9 SV x0 x1 x2 x3 x4 x5 x6 x7 hcx
        intro M hN
        obtain ⟨G, hG⟩ : ∃ G, G = w9.heap.size := ⟨_, rfl⟩
        obtain ⟨B, hB⟩ : ∃ B, B = wr.heap.size := ⟨_, rfl⟩
        rw [← hG, ← hB] at hN
        rw [← hG]
        clear hG hB
        have hne : some G ≠ lb := fun e => by have := hN.lbB G e.symm; have := hN.geG; omega
        refine wp_region_held (S := fun W' => W'.heap[G]? = some (.cells (esC s2 A2 c2) 33 (0, 0))) (by kernel_rfl) ?_
        have JC := hide (bs_drew hN.nxt)
        change wpAnyH _ _ _ _ _ _ _ _ M.drew
        have hN := hN.below (be_drew (be_refl _))
        generalize M.drew = W0 at *
        refine take_ (i := 0) (v := ?_) rfl (by kernel_rfl) (by kernel_rfl) (by kernel_rfl) (fun _ _ _ h => h) (Or.inl ⟨by rfl, ?_⟩) JC.out ?_
        rotate_left
        · (intro w5 hSw; unfold esC at hSw; obtain ⟨k0, k1, k2, k3, k4, k5, k6, k7, _⟩ := cells8 hSw; go_simp; try (with_reducible rfl))
        try simp only [Act.put, List.setIfInBounds_toArray, List.set_cons_zero, List.set_cons_succ]
        refine take_ (i := 1) (v := ?_) rfl (by kernel_rfl) (by kernel_rfl) (by kernel_rfl) (fun _ _ _ h => h) (Or.inl ⟨by rfl, ?_⟩) JC.out ?_
        rotate_left
        · (intro w5 hSw; unfold esC at hSw; obtain ⟨k0, k1, k2, k3, k4, k5, k6, k7, _⟩ := cells8 hSw; go_simp; try (with_reducible rfl))
        try simp only [Act.put, List.setIfInBounds_toArray, List.set_cons_zero, List.set_cons_succ]
        refine take_ (i := 2) (v := ?_) rfl (by kernel_rfl) (by kernel_rfl) (by kernel_rfl) (fun _ _ _ h => h) (Or.inl ⟨by rfl, ?_⟩) JC.out ?_
        rotate_left
        · (intro w5 hSw; unfold esC at hSw; obtain ⟨k0, k1, k2, k3, k4, k5, k6, k7, _⟩ := cells8 hSw; go_simp; try (with_reducible rfl))
        try simp only [Act.put, List.setIfInBounds_toArray, List.set_cons_zero, List.set_cons_succ]
        refine wpAnyH_ready (rs := [3]) (by kernel_rfl) (by simp) ?_
        refine cons_ rfl (fun K hK => ?_) nil_
        have hrd : Rd W0 0 o2 (flatD ds2) := by have h := HO2.out; simp [sl] at h; rw [← h]; exact (Rd.of hN.acts2.own).lower (Nat.zero_le _)
        refine step_append_rd _ (by rfl) (.tmp 76) (.tmp 77) 27 (by rfl) (Wb.heap.size + 2) 24 i3 _ 3 40 Try.underlying27 hi3 hy0 hy1 hy2 rfl (by omega) lb l.length cap (flatD ds) (HOB.out.symm) hN.li.acts.own o2 l2.length cap2 (flatD ds2) (by rfl) (by rw [flatD_len, hN.acts2.len]) hrd (flatD_one _) (by have := HLL.out; unfold maxLen; omega) (by have := HLL.out; omega) hN.li.sz ?_
        intro lb3 cap3 W5 hown hgrow hat
        have hA := hN.append hgrow hat hown
        have hg5 : W5.heap[G]? = some (.cells (esC s2 A2 c2) 33 (0, 0)) := (hgrow.block _ (bs_lt hN.nxt) hne).trans hN.nxt
        have hG2 : Wb.heap.size + 2 ≤ G := Nat.le_trans hN.geB hN.geG
        refine hK.out _ _ hg5 (fun _ => ?_)
        try simp only [Act.put, List.setIfInBounds_toArray, List.set_cons_zero, List.set_cons_succ]
        obtain ⟨o3, ho3⟩ := sl_to lb3 (l.length + l2.length) cap3
        rw [ho3]
        have HO3 := hide ho3
        refine letter_ (fun W => LB Wb (.cells #[.slice o8 lo cap8, .slice oa (hh - lo) (cap8 - lo), .slice ob (N - hh) (cap8 - hh)] 36 (0, 0)) (fun _ => False) s' A' c' lb3 cap3 (l ++ l2) (ds ++ ds2) s2 A2 c2 W ∧ W.heap[G]? = some (.cells (esC s2 A2 c2) 33 (0, 0))) ⟨hA, hg5⟩ ?_
        clear hA hg5 hown hgrow hat hrd hK hN hne ho3 JC
        rintro W1 ⟨hA, hg⟩
        refine wpAnyH_ready (rs := [4]) (by kernel_rfl) (by simp) ?_
        refine cons_ rfl (fun K hK => ?_) nil_
        have hme := hA.li.me
        unfold esC at hme
        obtain ⟨x0, x1, x2, x3, x4, x5, x6, x7, fz⟩ := cells8 hme
        go_simp
        refine hK.out _ _ ?_ (fun _ => ?_)
        · repeat (with_reducible apply bs_far; case hp => (dsimp only; omega))
          exact hg
        try simp only [Act.put, List.setIfInBounds_toArray, List.set_cons_zero, List.set_cons_succ]
        refine letter_ (fun W => LJ Wb (.cells #[.slice o8 lo cap8, .slice oa (hh - lo) (cap8 - lo), .slice ob (N - hh) (cap8 - hh)] 36 (0, 0)) (fun _ => False) s2 A2 c2 lb3 cap3 (l ++ l2) (ds ++ ds2) W ∧ W.heap[G]? = some (.cells (esC s2 A2 c2) 33 (0, 0))) ⟨hA.store, ?_⟩ ?_
        · repeat (with_reducible apply bs_far; case hp => (dsimp only; omega))
          exact hg
        clear hA hg hK hme x0 x1 x2 x3 x4 x5 x6 x7 fz
        rintro W2 ⟨hLI, hg⟩
        have JC := hide hg
        refine take_ (i := 5) (v := ?_) rfl (by kernel_rfl) (by kernel_rfl) (by kernel_rfl) (fun _ _ _ h => h) (Or.inl ⟨by rfl, ?_⟩) JC.out ?_
        rotate_left
        · (intro w5 hSw; skip; go_simp; try (with_reducible rfl))
        try simp only [Act.put, List.setIfInBounds_toArray, List.set_cons_zero, List.set_cons_succ]
        refine wpAnyH_done (by kernel_rfl) ?_ _
        go_wp2
        exact ⟨⟨j + 1, s2, A2, c2, lb3, cap3, l ++ l2, ds ++ ds2, by have := HJ.out; omega, by simp, by rw [List.length_append, HO3.out], hLI, HWS2.out, HSG.out⟩, by simp only [intOf]; have := HJ.out; omega⟩
      · have r1 : ((j : Int) < 3) = False := eq_false (by omega)
        have hj3 : j = 3 := by omega
        have hsl : (s', l) = (s, x) := by
          rw [← HSIG.out, ← HS.out, hj3]
          congr 1
          exact List.take_of_length_le (by rw [HTN.out]; exact Nat.le_refl _)
        obtain ⟨rfl, rfl⟩ := Prod.mk.inj hsl
        have hk9 := HK.out.1
        rw [hk9] at HOB ⊢
        have hme := hLI.me
        unfold esC at hme
        obtain ⟨x0, x1, x2, x3, x4, x5, x6, x7, _⟩ := cells8 hme
        have hbe : Below Wb.heap.size Wb wr := hLI.be
        have hg1 := at_below hbe HG.out
        unfold esC at hg1
        obtain ⟨y0, y1, y2, y3, y4, y5, y6, y7, _⟩ := cells8 hg1
        have HP5 := hide (HP3.out.below hbe)
        have HP6 := hide (PF.of hLI.par)
        have HA5 := hide (HA3.out.below hbe)
        have HA6 := hide hLI.acts.ar
        have hB := be_call hbe HB.out.size HB.out
        have hsz9 := hB.size
        clear hLI hj hj3 hjl hsl hk9 hme hg1 hbe
        go_wp2_with (first
          | (go_at_call 15; (with_reducible refine (sameEsc_at s' (by have := HI.out.wf.l0; omega) A3 A' c3 c' _ ?r1 ?r2).mono ?_); (case r1 => exact HP5.out.below (by (repeat (first | (with_reducible assumption) | with_reducible exact be_refl _ | (with_reducible refine be_set ?_ (by dsimp only; omega)) | (with_reducible apply be_drew) | (with_reducible apply be_drewN) | (with_reducible refine be_alloc ?_ (by first | omega | (simp; omega) | simp)) | (with_reducible refine be_call (by with_reducible assumption) (by first | omega | (simp; omega) | simp) ?_))))); (case r2 => exact HP6.out.below (by (repeat (first | (with_reducible assumption) | with_reducible exact be_refl _ | (with_reducible refine be_set ?_ (by dsimp only; omega)) | (with_reducible apply be_drew) | (with_reducible apply be_drewN) | (with_reducible refine be_alloc ?_ (by first | omega | (simp; omega) | simp)) | (with_reducible refine be_call (by with_reducible assumption) (by first | omega | (simp; omega) | simp) ?_))))); rintro e w7 ⟨rfl, hb7⟩; have hz7 := hb7.size; (try simp at hz7))
          | (go_at_call 12; (with_reducible refine (sameActs_at l k HK.out.1 HK.out.2 (fun a h => Nat.le_trans (HPAR.out a h) (by decide)) lb3 lb o3 ob2 cap3 cap H3.out HOB.out ds3 ds _ ?r1 ?r2).mono ?_); (case r1 => exact HA5.out.below (by (repeat (first | (with_reducible assumption) | with_reducible exact be_refl _ | (with_reducible refine be_set ?_ (by dsimp only; omega)) | (with_reducible apply be_drew) | (with_reducible apply be_drewN) | (with_reducible refine be_alloc ?_ (by first | omega | (simp; omega) | simp)) | (with_reducible refine be_call (by with_reducible assumption) (by first | omega | (simp; omega) | simp) ?_))))); (case r2 => exact HA6.out.below (by (repeat (first | (with_reducible assumption) | with_reducible exact be_refl _ | (with_reducible refine be_set ?_ (by dsimp only; omega)) | (with_reducible apply be_drew) | (with_reducible apply be_drewN) | (with_reducible refine be_alloc ?_ (by first | omega | (simp; omega) | simp)) | (with_reducible refine be_call (by with_reducible assumption) (by first | omega | (simp; omega) | simp) ?_))))); rintro e w6 ⟨rfl, hb6⟩; have hz6 := hb6.size; (try simp at hz6))
          | (go_at_call 13; (with_reducible refine (awake_val _).mono ?_); rintro e w5 ⟨rfl, hb5⟩; have hz5 := hb5.size; (try simp at hz5)))
        go_ret
        exact ⟨rfl, by (repeat (first | (with_reducible assumption) | with_reducible exact be_refl _ | (with_reducible refine be_set ?_ (by dsimp only; omega)) | (with_reducible apply be_drew) | (with_reducible apply be_drewN) | (with_reducible refine be_alloc ?_ (by first | omega | (simp; omega) | simp)) | (with_reducible refine be_call (by with_reducible assumption) (by first | omega | (simp; omega) | simp) ?_)))⟩
end Go.Proofs.Ytiahfgcfgpakiaa.EscaPartsW


