/- EpocPlays: threads are pinned and unpinned, what is retired waits and is given back as the document says: for any number of threads and any script, without a condition. -/
import Derived.Test.YtnpeklimpdljbaaEpocPlaysM
namespace Go.Proofs.Ytnpeklimpdljbaa.EpocPlaysW
open Go.RowKit Go.Proofs.YtnpeklimpdljbaaKit Go.Proofs.YtnpeklimpdljbaaW.PrintWords Go.Proofs.YtnpeklimpdljbaaW.PrintLast Go.Proofs.Ytnpeklimpdljbaa.EpocBase Go.Proofs.Ytnpeklimpdljbaa.EpocOps Go.Proofs.Ytnpeklimpdljbaa.EpocRows Go.Proofs.Ytnpeklimpdljbaa.EpocAdv Go.Proofs.Ytnpeklimpdljbaa.EpocUse Go.Proofs.Ytnpeklimpdljbaa.EpocRef Go.Proofs.Ytnpeklimpdljbaa.EpocRef2 Go.Proofs.Ytnpeklimpdljbaa.EpocRef3 Go.Proofs.Ytnpeklimpdljbaa.EpocRef4 Go.Proofs.Ytnpeklimpdljbaa.EpocPlaysM Go.Proofs.Ytnpeklimpdljbaa.Split
attribute [local go_sem] cell_alloc_some cell_alloc2_some cell_alloc3_some cell_alloc4_some
set_option linter.unusedVariables false
set_option linter.unusedSimpArgs false
theorem and7 (n : Int) : ∃ N : Nat, Go.bits .and .i64 n 7 = (N : Int) ∧ N ≤ 7 := by
  have h : 0 ≤ Go.bits .and .i64 n 7 ∧ Go.bits .and .i64 n 7 ≤ 7 := and_range 3 (by omega) n
  exact ⟨(Go.bits .and .i64 n 7).toNat, by omega, by omega⟩
set_option maxHeartbeats 16000000 in
set_option maxRecDepth 100000 in
theorem walkR (th : Int) (A : Option Addr) (len c : Nat) (z : List Int) (w : World) (_ : (Lit.int .i64 th).wf = true)
    (h1 : (A = none ∧ len = 0 ∧ c = 0 ∧ z = []) ∨ ∃ x, A = some x ∧ len ≤ c ∧ c ≤ maxLen ∧ z.length = c ∧ (∀ i, i < z.length → w.cell? (x.add i) = some (.int .i64 (z.getD i 0))) ∧ ∀ n ∈ z, (Lit.int .i64 n).wf = true) (y1 : len * 8 ≤ 140737488351232) :
    Calls Try.prog 5 #[.int .i64 th, .slice A len c] w fun e w' => e = .returned (.bool true) ∧ Below w.heap.size w w' := by
  obtain ⟨l, rfl, hr, _, _⟩ := ReadsInt.ofRow h1
  clear h1 y1
  obtain ⟨L, hL⟩ : ∃ L, L = l.length := ⟨_, rfl⟩
  rw [← hL] at hr ⊢
  have R1 := hide hr
  clear hr hL
  obtain ⟨N0, hN0, hN7⟩ := and7 th
  obtain ⟨n, hn⟩ : ∃ n : Nat, n = N0 - 1 := ⟨_, rfl⟩
  obtain ⟨tt, htt⟩ : ∃ tt : Int, wrap64 ((N0 : Int) - 1) = tt := ⟨_, rfl⟩
  have hth : tt = (n : Int) ∨ tt < 0 ∧ n = 0 := by rw [← htt]; unfold wrap64; omega
  have HB := hide (show n ≤ 8 by omega)
  have HN := hide (new_calls tt n w (by have := HB.out; omega) hth)
  have HM := hide (fun W => rnew tt n W (by have := HB.out; omega) hth)
  clear hn hN7 hth
  go_enter Try.func5, Try.ntmps5
  go_wp2_with (first
    | (go_at_call 7; with_reducible refine (HN.out).mono ?_; rintro e W1 ⟨g, pb, rfl, P⟩; have P1 := hide P; clear P)
    | (go_at_call 16; with_reducible refine (HM.out W1).mono ?_; rintro e W2 ⟨h, q, qc, rfl, P⟩; have P2 := hide P; clear P))
  have hb12 : Below W1.heap.size W1 W2 := P2.out.below
  have BB := hide (show Bo w W2 g pb none 0 0 (List.replicate n 0) [] h q none none qc 0 0 0 (subs (List.replicate n 0)) [] [] from
    ⟨P1.out.below_then hb12, by
      have e : subs (List.replicate n 0) = List.replicate n (-1) := by simp [subs]
      rw [e]
      have f := P2.out
      exact ⟨f.obj, f.pins, f.l, f.when, f.qr, f.qs, f.rs, Nat.le_trans P1.out.below.size f.ge, be_call f.below P1.out.below.size P1.out.below⟩, Nat.lt_of_lt_of_le (bs_lt P1.out.obj) P2.out.ge, by simp, fun b _ => by simp, fun b _ => by simp, fun b _ => by simp⟩)
  clear hb12 P1 P2
  go_loopw [7] (fun v7 wr => ∃ (i : Nat) (now : Int) (ps : List Int) (xs : List (Int × Int)) (lb : Option Nat) (cap : Nat) (q r s : Option Nat) (qc rc sc : Nat), i ≤ 80 ∧ v7 = .int .i64 (i : Int) ∧ Bo w wr g pb lb cap now ps xs h q r s qc rc sc now (subs ps) (xs.map (·.1)) (xs.map (·.2)) ∧ Inv i now ps xs) (fun v7 _ => (80 - intOf v7).toNat)
  case atStart =>
    exact ⟨0, 0, _, [], none, 0, q, none, none, qc, 0, 0, by omega, rfl, BB.out, ⟨by have := HB.out; simpa using this, fun p hp => by rw [List.eq_of_mem_replicate hp]; omega, by simp, by omega⟩⟩
  case round =>
    obtain ⟨i, now, ps, xs, lb, cap, q, r, s, qc, rc, sc, hi, rfl, hS, hI⟩ := hrel
    have S := hide hS
    have I := hide hI
    clear hS hI BB
    by_cases hgo : i < L ∧ i < 80
    · have p1 : ((i : Int) < (L : Int)) = True := eq_true (by omega)
      have p2 : ((i : Int) < 80) = True := eq_true (by omega)
      obtain ⟨ad, rfl, _⟩ := R1.out.at_ (i : Int) (by omega) (by omega)
      have RC := hide (show ∀ W : World, Below w.heap.size w W → W.cell? (ad.add i) = some (.int .i64 (rd l i)) from fun W hb => by
        obtain ⟨ad', e, hc⟩ := (R1.out.below hb).at_ (i : Int) (by omega) (by omega)
        cases e
        simpa using hc)
      have lc := RC.out _ S.out.ep.below
      obtain ⟨z, hz⟩ : ∃ z, z = rd l i := ⟨_, rfl⟩
      rw [← hz] at lc RC
      obtain ⟨K, hK, hK7⟩ := and7 z
      have HG := hide hgo
      have HW := hide (show wrap64 ((i : Int) + 1) = (i : Int) + 1 by unfold wrap64; omega)
      have p0 : (0 : Int) ≤ (i : Int) := by omega
      clear hgo hi hz
      go_upto_region 9 with fail
      obtain ⟨t, ht⟩ : ∃ t : Int, t = wrap64 (Go.bits .and .i64 (z / 8) 15 - 2) := ⟨_, rfl⟩
      try rw [← ht]
      clear ht
      go_upto_block 2 with fail
      go_cut [] (fun wx => ∃ (now2 : Int) (ps2 : List Int) (xs2 : List (Int × Int)) (lb2 : Option Nat) (cap2 : Nat) (q2 r2 s2 : Option Nat) (qc2 rc2 sc2 : Nat), Bo w wx g pb lb2 cap2 now2 ps2 xs2 h q2 r2 s2 qc2 rc2 sc2 now2 (subs ps2) (xs2.map (·.1)) (xs2.map (·.2)) ∧ Inv (i + 1) now2 ps2 xs2)
      case first =>
        have hks : (K = 0 ∨ K = 1) ∨ (K = 2 ∨ K = 3) ∨ (K = 4 ∨ K = 5) ∨ (K = 6 ∨ K = 7) := by omega
        clear hK7
        rcases hks with hks | hks | hks | hks
        · rcases hks with rfl | rfl
          all_goals
            go_wp2_with (first
              | (go_at_call 14; with_reducible refine (e_pin w _ g pb _ _ i _ _ _ t (by have := HG.out; omega) I.out S.out.ep).mono ?_; rintro e W3 ⟨rfl, P, F⟩; have S3 := hide (S.out.ep_step P F); clear P F)
              | (go_at_call 17; with_reducible refine (r_pin w _ i _ _ _ h _ _ _ _ _ _ t I.out S3.out.rf).mono ?_; rintro e W4 ⟨rfl, P, F⟩; have S4 := hide (S3.out.rf_step P F); clear P F))
            go_meet
            exact ⟨_, _, _, _, _, _, _, _, _, _, _, S4.out, (I.out.pin t).next⟩
        · rcases hks with rfl | rfl
          all_goals
            go_wp2_with (first
              | (go_at_call 18; with_reducible refine (e_unpin w _ g pb _ _ i _ _ _ t (by have := HG.out; omega) I.out S.out.ep).mono ?_; rintro e W3 ⟨rfl, P, F⟩; have S3 := hide (S.out.ep_step P F); clear P F)
              | (go_at_call 19; with_reducible refine (r_unpin w _ i _ _ _ h _ _ _ _ _ _ t I.out S3.out.rf).mono ?_; rintro e W4 ⟨rfl, P, F⟩; have S4 := hide (S3.out.rf_step P F); clear P F))
            go_meet
            exact ⟨_, _, _, _, _, _, _, _, _, _, _, S4.out, (I.out.un t).next⟩
        · rcases hks with rfl | rfl
          all_goals
            go_wp2_with (first
              | (go_at_call 8; with_reducible refine (retire_calls z w _ g pb _ _ _ _ _ S.out.ep (by have := I.out.xl; have := HG.out; omega)).mono ?_; rintro e W3 ⟨rfl, lb3, cap3, P, F⟩; have S3 := hide (S.out.ep_step P F); have lc3 := RC.out _ S3.out.ep.below; clear P F)
              | (go_at_call 20; with_reducible refine (r_retire w _ i _ _ _ h _ _ _ _ _ _ z (by have := HG.out; omega) I.out S3.out.rf).mono ?_; rintro e W4 ⟨rfl, r4, s4, rc4, sc4, P, F⟩; have S4 := hide (S3.out.rf_step P F); clear P F))
            go_meet
            exact ⟨_, _, _, _, _, _, _, _, _, _, _, S4.out, I.out.push z⟩
        · have HE := hide (e_adv w wr g pb lb cap i now ps xs (by have := HG.out; omega) I.out S.out.ep)
          have HR := hide (fun W (f : Rf w W h q r s qc rc sc now (subs ps) (xs.map (·.1)) (xs.map (·.2))) => r_adv w W i now ps xs h q r s qc rc sc (by have := HG.out; omega) I.out f)
          have HL := hide (Nat.le_trans (advL_le (now := now) (ps := ps) (xs := xs)) I.out.xl)
          have IA := hide I.out.adv
          generalize advL now ps xs = al at *
          generalize canB now ps = cb at *
          obtain ⟨m, hm⟩ : ∃ m, m = al.length := ⟨_, rfl⟩
          rw [← hm] at HE HR HL
          have HMM := hide hm
          clear hm
          rcases hks with rfl | rfl
          all_goals
            go_wp2_with (first
              | (go_at_call 9; with_reducible refine (HE.out).mono ?_; rintro e W3 ⟨oa3, oc3, lb3, cap3, rfl, R, P, F⟩; have S3 := hide (S.out.ep_step P F); have R3 := hide R; have F3 := hide F; clear P F R)
              | (go_at_call 21; with_reducible refine (HR.out _ S3.out.rf).mono ?_; rintro e W4 ⟨oa4, oc4, r4, s4, rc4, sc4, rfl, R, P, F⟩; have S4 := hide (S3.out.rf_step P F); have R4 := hide R; have R34 := hide (rd_keep F3.out R3.out S.out.rf S3.out.rf F); clear P F R)
              | (go_at_call 10; with_reducible refine (same_rd _ _ _ oa3 oa4 _ _ al al (by have := HL.out; have := HG.out; rw [← HMM.out]; omega) R34.out R4.out m m HMM.out HMM.out).mono ?_; rintro e W5 ⟨rfl, hb5⟩; have S5 := hide (S4.out.then_ hb5); clear hb5))
            go_meet
            exact ⟨_, _, _, _, _, _, _, _, _, _, _, S5.out, IA.out⟩
      case rest =>
        obtain ⟨now2, ps2, xs2, lb2, cap2, q2, r2, s2, qc2, rc2, sc2, hS2, hI2⟩ := hcut
        clear S I
        have S := hide hS2
        have I := hide hI2
        obtain ⟨c0, c1, c2, _⟩ := hS2.rf.c
        obtain ⟨oL, eL, _⟩ := oa_of hS2.rf.l
        rw [eL] at c2
        have hRL : RD wc (h + 1) oL (xs2.map (·.1)) := by
          have := RD.of hS2.rf.l
          have e2 : oL = r2.map (fun b => (⟨b, 0, none⟩ : Addr)) := by injection eL with e; exact e.symm
          rw [e2]; exact this
        have hWT : ∀ W', Below wc.heap.size wc W' → Calls Try.prog 12 #[.pointer (some ⟨g, 0, none⟩)] W' fun e W'' => ∃ oa oc, e = .returned (.slice oa (xs2.map (·.1)).length oc) ∧ RD W'' W'.heap.size oa (xs2.map (·.1)) ∧ Below W'.heap.size W' W'' := fun W' hb => by
          rw [List.length_map]
          exact waiting_rd w W' g pb lb2 cap2 now2 ps2 xs2 (hS2.then_ hb).ep (by have := hI2.xl; have := HG.out; omega)
        have hLL : (xs2.map (·.1)).length ≤ i + 1 := by rw [List.length_map]; exact hI2.xl
        have HPP := hide (e_pinned w wc g pb lb2 cap2 (i + 1) now2 ps2 xs2 t (by have := HG.out; omega) hI2 hS2.ep)
        generalize hal : xs2.map (·.1) = al at c2 hRL hWT hLL
        clear eL hal
        obtain ⟨m, hm⟩ : ∃ m, m = al.length := ⟨_, rfl⟩
        rw [← hm] at c2 hWT hLL
        have HMM := hide hm
        have HWT := hide hWT
        have HL := hide hLL
        have RLL := hide hRL
        have hq := fun (k : Nat) (z : Int) (e : (subs ps2)[k]? = some z) => hS2.rf.pin e
        have hlen : (subs ps2).length = ps2.length := subs_len
        rw [hlen] at c1
        clear hm hWT hLL hRL hS2 hI2 hK7 hlen
        have kc0 := World.block_lt_of_cell? _ _ c0
        have kc1 := World.block_lt_of_cell? _ _ c1
        have kc2 := World.block_lt_of_cell? _ _ c2
        by_cases hin : inB ps2 t = true
        · rw [hin] at HPP
          obtain ⟨h0, p, hp, hpp⟩ : 0 ≤ t ∧ ∃ p, ps2[t.toNat]? = some p ∧ 0 < p := by
            simp only [inB, Bool.and_eq_true, decide_eq_true_eq] at hin
            obtain ⟨h0, h1⟩ := hin
            refine ⟨h0, ?_⟩
            cases hp : ps2[t.toNat]? with
            | none => rw [hp] at h1; simp at h1
            | some p => rw [hp] at h1; exact ⟨p, rfl, h1⟩
          rw [hp] at HPP
          simp only [if_true, Option.getD_some] at HPP
          obtain ⟨b, rfl, hbh, cp, _⟩ := hq t.toNat (p - 1) (by rw [subs_get, hp]; rfl)
          have hl := (List.getElem?_eq_some_iff.1 hp).1
          obtain ⟨z1, hz1⟩ : ∃ z1, z1 = p - 1 := ⟨_, rfl⟩
          rw [← hz1] at HPP cp
          have t1 : (0 ≤ t) = True := eq_true h0
          have t2 : (t < (ps2.length : Int)) = True := eq_true (by omega)
          have t2' : t < (ps2.length : Int) := by omega
          have t3 : (0 ≤ z1) = True := eq_true (by omega)
          have kcp := World.block_lt_of_cell? _ _ cp
          have c1' : wc.cell? ⟨h, 1, none⟩ = some (.slice (some ⟨b, 0, none⟩) ps2.length qc2) := c1
          generalize ps2.length = M at *
          clear hin hp hpp hq hl hz1 c1 hbh
          go_upto_region 28 with (go_at_call 15; with_reducible refine (HPP.out).mono ?_; rintro e v ⟨rfl, hv⟩; subst v)
          refine wp_region_held (S := fun w' => Below wc.heap.size wc w') (by kernel_rfl) ?_
          have JC0 := hide (show Below wc.heap.size wc wc.drew from be_drew (be_refl _))
          change wpAnyH _ _ _ _ _ _ _ _ wc.drew
          generalize hW0 : wc.drew = W0 at *
          clear hW0
          refine take_ (i := 0) (v := ?_) rfl (by kernel_rfl) (by kernel_rfl) (by kernel_rfl) (fun _ _ _ h => h) (Or.inl ⟨by rfl, ?_⟩) JC0.out ?_
          rotate_left
          · (intro w5 hSw; have k0 := (hSw.cell (p := ⟨h, 0, none⟩) kc0).trans c0; have k1 := (hSw.cell (p := ⟨h, 1, none⟩) kc1).trans c1'; have k2 := (hSw.cell (p := ⟨h, 2, none⟩) kc2).trans c2; have k3 := (hSw.cell (p := ⟨b, t.toNat, none⟩) kcp).trans cp; go_simp; try (with_reducible rfl))
          try simp only [Act.put, List.setIfInBounds_toArray, List.set_cons_zero, List.set_cons_succ]
          refine take_ (i := 1) (v := ?_) rfl (by kernel_rfl) (by kernel_rfl) (by kernel_rfl) (fun _ _ _ h => h) (Or.inl ⟨by rfl, ?_⟩) JC0.out ?_
          rotate_left
          · (intro w5 hSw; have k0 := (hSw.cell (p := ⟨h, 0, none⟩) kc0).trans c0; have k1 := (hSw.cell (p := ⟨h, 1, none⟩) kc1).trans c1'; have k2 := (hSw.cell (p := ⟨h, 2, none⟩) kc2).trans c2; have k3 := (hSw.cell (p := ⟨b, t.toNat, none⟩) kcp).trans cp; go_simp; try (with_reducible rfl))
          try simp only [Act.put, List.setIfInBounds_toArray, List.set_cons_zero, List.set_cons_succ]
          refine take_ (i := 2) (v := ?_) rfl (by kernel_rfl) (by kernel_rfl) (by kernel_rfl) (fun _ _ _ h => h) (Or.inl ⟨by rfl, ?_⟩) JC0.out ?_
          rotate_left
          · (intro w5 hSw; have k0 := (hSw.cell (p := ⟨h, 0, none⟩) kc0).trans c0; have k1 := (hSw.cell (p := ⟨h, 1, none⟩) kc1).trans c1'; have k2 := (hSw.cell (p := ⟨h, 2, none⟩) kc2).trans c2; have k3 := (hSw.cell (p := ⟨b, t.toNat, none⟩) kcp).trans cp; go_simp; try (with_reducible rfl))
          try simp only [Act.put, List.setIfInBounds_toArray, List.set_cons_zero, List.set_cons_succ]
          refine take_ (i := 3) (v := ?_) rfl (by kernel_rfl) (by kernel_rfl) (by kernel_rfl) (fun _ _ _ h => h) (Or.inl ⟨by rfl, ?_⟩) JC0.out ?_
          rotate_left
          · (intro w5 hSw; have k0 := (hSw.cell (p := ⟨h, 0, none⟩) kc0).trans c0; have k1 := (hSw.cell (p := ⟨h, 1, none⟩) kc1).trans c1'; have k2 := (hSw.cell (p := ⟨h, 2, none⟩) kc2).trans c2; have k3 := (hSw.cell (p := ⟨b, t.toNat, none⟩) kcp).trans cp; go_simp; try (with_reducible rfl))
          try simp only [Act.put, List.setIfInBounds_toArray, List.set_cons_zero, List.set_cons_succ]
          refine take_ (i := 4) (v := ?_) rfl (by kernel_rfl) (by kernel_rfl) (by kernel_rfl) (fun _ _ _ h => h) (Or.inl ⟨by rfl, ?_⟩) JC0.out ?_
          rotate_left
          · (intro w5 hSw; have k0 := (hSw.cell (p := ⟨h, 0, none⟩) kc0).trans c0; have k1 := (hSw.cell (p := ⟨h, 1, none⟩) kc1).trans c1'; have k2 := (hSw.cell (p := ⟨h, 2, none⟩) kc2).trans c2; have k3 := (hSw.cell (p := ⟨b, t.toNat, none⟩) kcp).trans cp; go_simp; try (with_reducible rfl))
          try simp only [Act.put, List.setIfInBounds_toArray, List.set_cons_zero, List.set_cons_succ]
          refine take_ (i := 5) (v := ?_) rfl (by kernel_rfl) (by kernel_rfl) (by kernel_rfl) (fun _ _ _ h => h) (Or.inl ⟨by rfl, ?_⟩) JC0.out ?_
          rotate_left
          · (intro w5 hSw; have k0 := (hSw.cell (p := ⟨h, 0, none⟩) kc0).trans c0; have k1 := (hSw.cell (p := ⟨h, 1, none⟩) kc1).trans c1'; have k2 := (hSw.cell (p := ⟨h, 2, none⟩) kc2).trans c2; have k3 := (hSw.cell (p := ⟨b, t.toNat, none⟩) kcp).trans cp; go_simp; try (with_reducible rfl))
          try simp only [Act.put, List.setIfInBounds_toArray, List.set_cons_zero, List.set_cons_succ]
          refine take_ (i := 6) (v := ?_) rfl (by kernel_rfl) (by kernel_rfl) (by kernel_rfl) (fun _ _ _ h => h) (Or.inl ⟨by rfl, ?_⟩) JC0.out ?_
          rotate_left
          · (intro w5 hSw; have k0 := (hSw.cell (p := ⟨h, 0, none⟩) kc0).trans c0; have k1 := (hSw.cell (p := ⟨h, 1, none⟩) kc1).trans c1'; have k2 := (hSw.cell (p := ⟨h, 2, none⟩) kc2).trans c2; have k3 := (hSw.cell (p := ⟨b, t.toNat, none⟩) kcp).trans cp; go_simp; try (with_reducible rfl))
          try simp only [Act.put, List.setIfInBounds_toArray, List.set_cons_zero, List.set_cons_succ]
          refine take_ (i := 7) (v := ?_) rfl (by kernel_rfl) (by kernel_rfl) (by kernel_rfl) (fun _ _ _ h => h) (Or.inl ⟨by rfl, ?_⟩) JC0.out ?_
          rotate_left
          · (intro w5 hSw; have k0 := (hSw.cell (p := ⟨h, 0, none⟩) kc0).trans c0; have k1 := (hSw.cell (p := ⟨h, 1, none⟩) kc1).trans c1'; have k2 := (hSw.cell (p := ⟨h, 2, none⟩) kc2).trans c2; have k3 := (hSw.cell (p := ⟨b, t.toNat, none⟩) kcp).trans cp; go_simp; try (with_reducible rfl))
          try simp only [Act.put, List.setIfInBounds_toArray, List.set_cons_zero, List.set_cons_succ]
          refine take_ (i := 8) (v := ?_) rfl (by kernel_rfl) (by kernel_rfl) (by kernel_rfl) (fun _ _ _ h => h) (Or.inl ⟨by rfl, ?_⟩) JC0.out ?_
          rotate_left
          · (intro w5 hSw; have k0 := (hSw.cell (p := ⟨h, 0, none⟩) kc0).trans c0; have k1 := (hSw.cell (p := ⟨h, 1, none⟩) kc1).trans c1'; have k2 := (hSw.cell (p := ⟨h, 2, none⟩) kc2).trans c2; have k3 := (hSw.cell (p := ⟨b, t.toNat, none⟩) kcp).trans cp; go_simp; try (with_reducible rfl))
          try simp only [Act.put, List.setIfInBounds_toArray, List.set_cons_zero, List.set_cons_succ]
          refine take_ (i := 9) (v := ?_) rfl (by kernel_rfl) (by kernel_rfl) (by kernel_rfl) (fun _ _ _ h => h) (Or.inl ⟨by rfl, ?_⟩) JC0.out ?_
          rotate_left
          · (intro w5 hSw; have k0 := (hSw.cell (p := ⟨h, 0, none⟩) kc0).trans c0; have k1 := (hSw.cell (p := ⟨h, 1, none⟩) kc1).trans c1'; have k2 := (hSw.cell (p := ⟨h, 2, none⟩) kc2).trans c2; have k3 := (hSw.cell (p := ⟨b, t.toNat, none⟩) kcp).trans cp; go_simp; try (with_reducible rfl))
          try simp only [Act.put, List.setIfInBounds_toArray, List.set_cons_zero, List.set_cons_succ]
          refine take_ (i := 10) (v := ?_) rfl (by kernel_rfl) (by kernel_rfl) (by kernel_rfl) (fun _ _ _ h => h) (Or.inl ⟨by rfl, ?_⟩) JC0.out ?_
          rotate_left
          · (intro w5 hSw; have k0 := (hSw.cell (p := ⟨h, 0, none⟩) kc0).trans c0; have k1 := (hSw.cell (p := ⟨h, 1, none⟩) kc1).trans c1'; have k2 := (hSw.cell (p := ⟨h, 2, none⟩) kc2).trans c2; have k3 := (hSw.cell (p := ⟨b, t.toNat, none⟩) kcp).trans cp; go_simp; try (with_reducible rfl))
          try simp only [Act.put, List.setIfInBounds_toArray, List.set_cons_zero, List.set_cons_succ]
          refine take_ (i := 11) (v := ?_) rfl (by kernel_rfl) (by kernel_rfl) (by kernel_rfl) (fun _ _ _ h => h) (Or.inl ⟨by rfl, ?_⟩) JC0.out ?_
          rotate_left
          · (intro w5 hSw; have k0 := (hSw.cell (p := ⟨h, 0, none⟩) kc0).trans c0; have k1 := (hSw.cell (p := ⟨h, 1, none⟩) kc1).trans c1'; have k2 := (hSw.cell (p := ⟨h, 2, none⟩) kc2).trans c2; have k3 := (hSw.cell (p := ⟨b, t.toNat, none⟩) kcp).trans cp; go_simp; try (with_reducible rfl))
          try simp only [Act.put, List.setIfInBounds_toArray, List.set_cons_zero, List.set_cons_succ]
          refine take_ (i := 12) (v := ?_) rfl (by kernel_rfl) (by kernel_rfl) (by kernel_rfl) (fun _ _ _ h => h) (Or.inl ⟨by rfl, ?_⟩) JC0.out ?_
          rotate_left
          · (intro w5 hSw; have k0 := (hSw.cell (p := ⟨h, 0, none⟩) kc0).trans c0; have k1 := (hSw.cell (p := ⟨h, 1, none⟩) kc1).trans c1'; have k2 := (hSw.cell (p := ⟨h, 2, none⟩) kc2).trans c2; have k3 := (hSw.cell (p := ⟨b, t.toNat, none⟩) kcp).trans cp; go_simp; try (with_reducible rfl))
          try simp only [Act.put, List.setIfInBounds_toArray, List.set_cons_zero, List.set_cons_succ]
          refine take_ (i := 13) (v := ?_) rfl (by kernel_rfl) (by kernel_rfl) (by kernel_rfl) (fun _ _ _ h => h) (Or.inl ⟨by rfl, ?_⟩) JC0.out ?_
          rotate_left
          · (intro w5 hSw; have k0 := (hSw.cell (p := ⟨h, 0, none⟩) kc0).trans c0; have k1 := (hSw.cell (p := ⟨h, 1, none⟩) kc1).trans c1'; have k2 := (hSw.cell (p := ⟨h, 2, none⟩) kc2).trans c2; have k3 := (hSw.cell (p := ⟨b, t.toNat, none⟩) kcp).trans cp; go_simp; try (with_reducible rfl))
          try simp only [Act.put, List.setIfInBounds_toArray, List.set_cons_zero, List.set_cons_succ]
          refine take_ (i := 14) (v := ?_) rfl (by kernel_rfl) (by kernel_rfl) (by kernel_rfl) (fun _ _ _ h => h) (Or.inl ⟨by rfl, ?_⟩) JC0.out ?_
          rotate_left
          · (intro w5 hSw; have k0 := (hSw.cell (p := ⟨h, 0, none⟩) kc0).trans c0; have k1 := (hSw.cell (p := ⟨h, 1, none⟩) kc1).trans c1'; have k2 := (hSw.cell (p := ⟨h, 2, none⟩) kc2).trans c2; have k3 := (hSw.cell (p := ⟨b, t.toNat, none⟩) kcp).trans cp; go_simp; try (with_reducible rfl))
          try simp only [Act.put, List.setIfInBounds_toArray, List.set_cons_zero, List.set_cons_succ]
          refine take_ (i := 15) (v := ?_) rfl (by kernel_rfl) (by kernel_rfl) (by kernel_rfl) (fun _ _ _ h => h) (Or.inl ⟨by rfl, ?_⟩) JC0.out ?_
          rotate_left
          · (intro w5 hSw; have k0 := (hSw.cell (p := ⟨h, 0, none⟩) kc0).trans c0; have k1 := (hSw.cell (p := ⟨h, 1, none⟩) kc1).trans c1'; have k2 := (hSw.cell (p := ⟨h, 2, none⟩) kc2).trans c2; have k3 := (hSw.cell (p := ⟨b, t.toNat, none⟩) kcp).trans cp; go_simp; try (with_reducible rfl))
          try simp only [Act.put, List.setIfInBounds_toArray, List.set_cons_zero, List.set_cons_succ]
          refine take_ (i := 16) (v := ?_) rfl (by kernel_rfl) (by kernel_rfl) (by kernel_rfl) (fun _ _ _ h => h) (Or.inl ⟨by rfl, ?_⟩) JC0.out ?_
          rotate_left
          · (intro w5 hSw; have k0 := (hSw.cell (p := ⟨h, 0, none⟩) kc0).trans c0; have k1 := (hSw.cell (p := ⟨h, 1, none⟩) kc1).trans c1'; have k2 := (hSw.cell (p := ⟨h, 2, none⟩) kc2).trans c2; have k3 := (hSw.cell (p := ⟨b, t.toNat, none⟩) kcp).trans cp; go_simp; try (with_reducible rfl))
          try simp only [Act.put, List.setIfInBounds_toArray, List.set_cons_zero, List.set_cons_succ]
          refine take_ (i := 17) (v := ?_) rfl (by kernel_rfl) (by kernel_rfl) (by kernel_rfl) (fun _ _ _ h => h) (Or.inl ⟨by rfl, ?_⟩) JC0.out ?_
          rotate_left
          · (intro w5 hSw; have k0 := (hSw.cell (p := ⟨h, 0, none⟩) kc0).trans c0; have k1 := (hSw.cell (p := ⟨h, 1, none⟩) kc1).trans c1'; have k2 := (hSw.cell (p := ⟨h, 2, none⟩) kc2).trans c2; have k3 := (hSw.cell (p := ⟨b, t.toNat, none⟩) kcp).trans cp; go_simp; try (with_reducible rfl))
          try simp only [Act.put, List.setIfInBounds_toArray, List.set_cons_zero, List.set_cons_succ]
          refine take_ (i := 18) (v := ?_) rfl (by kernel_rfl) (by kernel_rfl) (by kernel_rfl) (fun _ _ _ h => h) (Or.inl ⟨by rfl, ?_⟩) JC0.out ?_
          rotate_left
          · (intro w5 hSw; have k0 := (hSw.cell (p := ⟨h, 0, none⟩) kc0).trans c0; have k1 := (hSw.cell (p := ⟨h, 1, none⟩) kc1).trans c1'; have k2 := (hSw.cell (p := ⟨h, 2, none⟩) kc2).trans c2; have k3 := (hSw.cell (p := ⟨b, t.toNat, none⟩) kcp).trans cp; go_simp; try (with_reducible rfl))
          try simp only [Act.put, List.setIfInBounds_toArray, List.set_cons_zero, List.set_cons_succ]
          refine take_ (i := 19) (v := ?_) rfl (by kernel_rfl) (by kernel_rfl) (by kernel_rfl) (fun _ _ _ h => h) (Or.inl ⟨by rfl, ?_⟩) JC0.out ?_
          rotate_left
          · (intro w5 hSw; have k0 := (hSw.cell (p := ⟨h, 0, none⟩) kc0).trans c0; have k1 := (hSw.cell (p := ⟨h, 1, none⟩) kc1).trans c1'; have k2 := (hSw.cell (p := ⟨h, 2, none⟩) kc2).trans c2; have k3 := (hSw.cell (p := ⟨b, t.toNat, none⟩) kcp).trans cp; go_simp; try (with_reducible rfl))
          try simp only [Act.put, List.setIfInBounds_toArray, List.set_cons_zero, List.set_cons_succ]
          refine take_ (i := 20) (v := ?_) rfl (by kernel_rfl) (by kernel_rfl) (by kernel_rfl) (fun _ _ _ h => h) (Or.inl ⟨by rfl, ?_⟩) JC0.out ?_
          rotate_left
          · (intro w5 hSw; have k0 := (hSw.cell (p := ⟨h, 0, none⟩) kc0).trans c0; have k1 := (hSw.cell (p := ⟨h, 1, none⟩) kc1).trans c1'; have k2 := (hSw.cell (p := ⟨h, 2, none⟩) kc2).trans c2; have k3 := (hSw.cell (p := ⟨b, t.toNat, none⟩) kcp).trans cp; go_simp; try (with_reducible rfl))
          try simp only [Act.put, List.setIfInBounds_toArray, List.set_cons_zero, List.set_cons_succ]
          refine take_ (i := 21) (v := undef) rfl (by kernel_rfl) (by kernel_rfl) (by kernel_rfl) (fun _ _ _ h => h) (Or.inr ⟨by rfl, rfl⟩) JC0.out ?_
          try simp only [Act.put, List.setIfInBounds_toArray, List.set_cons_zero, List.set_cons_succ]
          refine take_ (i := 22) (v := undef) rfl (by kernel_rfl) (by kernel_rfl) (by kernel_rfl) (fun _ _ _ h => h) (Or.inr ⟨by rfl, rfl⟩) JC0.out ?_
          try simp only [Act.put, List.setIfInBounds_toArray, List.set_cons_zero, List.set_cons_succ]
          refine take_ (i := 23) (v := ?_) rfl (by kernel_rfl) (by kernel_rfl) (by kernel_rfl) (fun _ _ _ h => h) (Or.inl ⟨by rfl, ?_⟩) JC0.out ?_
          rotate_left
          · (intro w5 hSw; have k0 := (hSw.cell (p := ⟨h, 0, none⟩) kc0).trans c0; have k1 := (hSw.cell (p := ⟨h, 1, none⟩) kc1).trans c1'; have k2 := (hSw.cell (p := ⟨h, 2, none⟩) kc2).trans c2; have k3 := (hSw.cell (p := ⟨b, t.toNat, none⟩) kcp).trans cp; go_simp; try (with_reducible rfl))
          try simp only [Act.put, List.setIfInBounds_toArray, List.set_cons_zero, List.set_cons_succ]
          refine take_ (i := 24) (v := ?_) rfl (by kernel_rfl) (by kernel_rfl) (by kernel_rfl) (fun _ _ _ h => h) (Or.inl ⟨by rfl, ?_⟩) JC0.out ?_
          rotate_left
          · (intro w5 hSw; have k0 := (hSw.cell (p := ⟨h, 0, none⟩) kc0).trans c0; have k1 := (hSw.cell (p := ⟨h, 1, none⟩) kc1).trans c1'; have k2 := (hSw.cell (p := ⟨h, 2, none⟩) kc2).trans c2; have k3 := (hSw.cell (p := ⟨b, t.toNat, none⟩) kcp).trans cp; go_simp; try (with_reducible rfl))
          try simp only [Act.put, List.setIfInBounds_toArray, List.set_cons_zero, List.set_cons_succ]
          refine take_ (i := 25) (v := ?_) rfl (by kernel_rfl) (by kernel_rfl) (by kernel_rfl) (fun _ _ _ h => h) (Or.inl ⟨by rfl, ?_⟩) JC0.out ?_
          rotate_left
          · (intro w5 hSw; have k0 := (hSw.cell (p := ⟨h, 0, none⟩) kc0).trans c0; have k1 := (hSw.cell (p := ⟨h, 1, none⟩) kc1).trans c1'; have k2 := (hSw.cell (p := ⟨h, 2, none⟩) kc2).trans c2; have k3 := (hSw.cell (p := ⟨b, t.toNat, none⟩) kcp).trans cp; go_simp; try (with_reducible rfl))
          try simp only [Act.put, List.setIfInBounds_toArray, List.set_cons_zero, List.set_cons_succ]
          refine take_ (i := 26) (v := ?_) rfl (by kernel_rfl) (by kernel_rfl) (by kernel_rfl) (fun _ _ _ h => h) (Or.inl ⟨by rfl, ?_⟩) JC0.out ?_
          rotate_left
          · (intro w5 hSw; have k0 := (hSw.cell (p := ⟨h, 0, none⟩) kc0).trans c0; have k1 := (hSw.cell (p := ⟨h, 1, none⟩) kc1).trans c1'; have k2 := (hSw.cell (p := ⟨h, 2, none⟩) kc2).trans c2; have k3 := (hSw.cell (p := ⟨b, t.toNat, none⟩) kcp).trans cp; go_simp; try (with_reducible rfl))
          try simp only [Act.put, List.setIfInBounds_toArray, List.set_cons_zero, List.set_cons_succ]
          refine take_ (i := 28) (v := ?_) rfl (by kernel_rfl) (by kernel_rfl) (by kernel_rfl) (fun _ _ _ h => h) (Or.inl ⟨by rfl, ?_⟩) JC0.out ?_
          rotate_left
          · (intro w5 hSw; have k0 := (hSw.cell (p := ⟨h, 0, none⟩) kc0).trans c0; have k1 := (hSw.cell (p := ⟨h, 1, none⟩) kc1).trans c1'; have k2 := (hSw.cell (p := ⟨h, 2, none⟩) kc2).trans c2; have k3 := (hSw.cell (p := ⟨b, t.toNat, none⟩) kcp).trans cp; go_simp; try (with_reducible rfl))
          try simp only [Act.put, List.setIfInBounds_toArray, List.set_cons_zero, List.set_cons_succ]
          refine take_ (i := 29) (v := ?_) rfl (by kernel_rfl) (by kernel_rfl) (by kernel_rfl) (fun _ _ _ h => h) (Or.inl ⟨by rfl, ?_⟩) JC0.out ?_
          rotate_left
          · (intro w5 hSw; have k0 := (hSw.cell (p := ⟨h, 0, none⟩) kc0).trans c0; have k1 := (hSw.cell (p := ⟨h, 1, none⟩) kc1).trans c1'; have k2 := (hSw.cell (p := ⟨h, 2, none⟩) kc2).trans c2; have k3 := (hSw.cell (p := ⟨b, t.toNat, none⟩) kcp).trans cp; go_simp; try (with_reducible rfl))
          try simp only [Act.put, List.setIfInBounds_toArray, List.set_cons_zero, List.set_cons_succ]
          refine take_ (i := 30) (v := ?_) rfl (by kernel_rfl) (by kernel_rfl) (by kernel_rfl) (fun _ _ _ h => h) (Or.inl ⟨by rfl, ?_⟩) JC0.out ?_
          rotate_left
          · (intro w5 hSw; have k0 := (hSw.cell (p := ⟨h, 0, none⟩) kc0).trans c0; have k1 := (hSw.cell (p := ⟨h, 1, none⟩) kc1).trans c1'; have k2 := (hSw.cell (p := ⟨h, 2, none⟩) kc2).trans c2; have k3 := (hSw.cell (p := ⟨b, t.toNat, none⟩) kcp).trans cp; go_simp; try (with_reducible rfl))
          try simp only [Act.put, List.setIfInBounds_toArray, List.set_cons_zero, List.set_cons_succ]
          refine take_ (i := 31) (v := ?_) rfl (by kernel_rfl) (by kernel_rfl) (by kernel_rfl) (fun _ _ _ h => h) (Or.inl ⟨by rfl, ?_⟩) JC0.out ?_
          rotate_left
          · (intro w5 hSw; have k0 := (hSw.cell (p := ⟨h, 0, none⟩) kc0).trans c0; have k1 := (hSw.cell (p := ⟨h, 1, none⟩) kc1).trans c1'; have k2 := (hSw.cell (p := ⟨h, 2, none⟩) kc2).trans c2; have k3 := (hSw.cell (p := ⟨b, t.toNat, none⟩) kcp).trans cp; go_simp; try (with_reducible rfl))
          try simp only [Act.put, List.setIfInBounds_toArray, List.set_cons_zero, List.set_cons_succ]
          refine wpAnyH_ready (rs := [27]) (by kernel_rfl) (by simp) ?_
          refine cons_ rfl (fun K hK => ?_) nil_
          go_simp
          (go_at_call 11; with_reducible refine (now_calls w _ g pb _ _ _ _ _ (S.out.then_ JC0.out).ep).mono ?_; rintro e v ⟨rfl, hv⟩; subst v; have JC1 := JC0)
          go_wp2_with fail
          refine hK.out _ _ JC1.out (fun _ => ?_)
          try simp only [Act.put, List.setIfInBounds_toArray, List.set_cons_zero, List.set_cons_succ]
          clear hK K
          refine take_ (i := 32) (v := ?_) rfl (by kernel_rfl) (by kernel_rfl) (by kernel_rfl) (fun _ _ _ h => h) (Or.inl ⟨by rfl, ?_⟩) JC1.out ?_
          rotate_left
          · (intro w5 hSw; have k0 := (hSw.cell (p := ⟨h, 0, none⟩) kc0).trans c0; have k1 := (hSw.cell (p := ⟨h, 1, none⟩) kc1).trans c1'; have k2 := (hSw.cell (p := ⟨h, 2, none⟩) kc2).trans c2; have k3 := (hSw.cell (p := ⟨b, t.toNat, none⟩) kcp).trans cp; go_simp; try (with_reducible rfl))
          try simp only [Act.put, List.setIfInBounds_toArray, List.set_cons_zero, List.set_cons_succ]
          refine take_ (i := 33) (v := ?_) rfl (by kernel_rfl) (by kernel_rfl) (by kernel_rfl) (fun _ _ _ h => h) (Or.inl ⟨by rfl, ?_⟩) JC1.out ?_
          rotate_left
          · (intro w5 hSw; have k0 := (hSw.cell (p := ⟨h, 0, none⟩) kc0).trans c0; have k1 := (hSw.cell (p := ⟨h, 1, none⟩) kc1).trans c1'; have k2 := (hSw.cell (p := ⟨h, 2, none⟩) kc2).trans c2; have k3 := (hSw.cell (p := ⟨b, t.toNat, none⟩) kcp).trans cp; go_simp; try (with_reducible rfl))
          try simp only [Act.put, List.setIfInBounds_toArray, List.set_cons_zero, List.set_cons_succ]
          refine take_ (i := 34) (v := ?_) rfl (by kernel_rfl) (by kernel_rfl) (by kernel_rfl) (fun _ _ _ h => h) (Or.inl ⟨by rfl, ?_⟩) JC1.out ?_
          rotate_left
          · (intro w5 hSw; have k0 := (hSw.cell (p := ⟨h, 0, none⟩) kc0).trans c0; have k1 := (hSw.cell (p := ⟨h, 1, none⟩) kc1).trans c1'; have k2 := (hSw.cell (p := ⟨h, 2, none⟩) kc2).trans c2; have k3 := (hSw.cell (p := ⟨b, t.toNat, none⟩) kcp).trans cp; go_simp; try (with_reducible rfl))
          try simp only [Act.put, List.setIfInBounds_toArray, List.set_cons_zero, List.set_cons_succ]
          refine take_ (i := 35) (v := ?_) rfl (by kernel_rfl) (by kernel_rfl) (by kernel_rfl) (fun _ _ _ h => h) (Or.inl ⟨by rfl, ?_⟩) JC1.out ?_
          rotate_left
          · (intro w5 hSw; have k0 := (hSw.cell (p := ⟨h, 0, none⟩) kc0).trans c0; have k1 := (hSw.cell (p := ⟨h, 1, none⟩) kc1).trans c1'; have k2 := (hSw.cell (p := ⟨h, 2, none⟩) kc2).trans c2; have k3 := (hSw.cell (p := ⟨b, t.toNat, none⟩) kcp).trans cp; go_simp; try (with_reducible rfl))
          try simp only [Act.put, List.setIfInBounds_toArray, List.set_cons_zero, List.set_cons_succ]
          refine take_ (i := 37) (v := ?_) rfl (by kernel_rfl) (by kernel_rfl) (by kernel_rfl) (fun _ _ _ h => h) (Or.inl ⟨by rfl, ?_⟩) JC1.out ?_
          rotate_left
          · (intro w5 hSw; have k0 := (hSw.cell (p := ⟨h, 0, none⟩) kc0).trans c0; have k1 := (hSw.cell (p := ⟨h, 1, none⟩) kc1).trans c1'; have k2 := (hSw.cell (p := ⟨h, 2, none⟩) kc2).trans c2; have k3 := (hSw.cell (p := ⟨b, t.toNat, none⟩) kcp).trans cp; go_simp; try (with_reducible rfl))
          try simp only [Act.put, List.setIfInBounds_toArray, List.set_cons_zero, List.set_cons_succ]
          refine take_ (i := 38) (v := ?_) rfl (by kernel_rfl) (by kernel_rfl) (by kernel_rfl) (fun _ _ _ h => h) (Or.inl ⟨by rfl, ?_⟩) JC1.out ?_
          rotate_left
          · (intro w5 hSw; have k0 := (hSw.cell (p := ⟨h, 0, none⟩) kc0).trans c0; have k1 := (hSw.cell (p := ⟨h, 1, none⟩) kc1).trans c1'; have k2 := (hSw.cell (p := ⟨h, 2, none⟩) kc2).trans c2; have k3 := (hSw.cell (p := ⟨b, t.toNat, none⟩) kcp).trans cp; go_simp; try (with_reducible rfl))
          try simp only [Act.put, List.setIfInBounds_toArray, List.set_cons_zero, List.set_cons_succ]
          refine take_ (i := 39) (v := ?_) rfl (by kernel_rfl) (by kernel_rfl) (by kernel_rfl) (fun _ _ _ h => h) (Or.inl ⟨by rfl, ?_⟩) JC1.out ?_
          rotate_left
          · (intro w5 hSw; have k0 := (hSw.cell (p := ⟨h, 0, none⟩) kc0).trans c0; have k1 := (hSw.cell (p := ⟨h, 1, none⟩) kc1).trans c1'; have k2 := (hSw.cell (p := ⟨h, 2, none⟩) kc2).trans c2; have k3 := (hSw.cell (p := ⟨b, t.toNat, none⟩) kcp).trans cp; go_simp; try (with_reducible rfl))
          try simp only [Act.put, List.setIfInBounds_toArray, List.set_cons_zero, List.set_cons_succ]
          refine take_ (i := 40) (v := ?_) rfl (by kernel_rfl) (by kernel_rfl) (by kernel_rfl) (fun _ _ _ h => h) (Or.inl ⟨by rfl, ?_⟩) JC1.out ?_
          rotate_left
          · (intro w5 hSw; have k0 := (hSw.cell (p := ⟨h, 0, none⟩) kc0).trans c0; have k1 := (hSw.cell (p := ⟨h, 1, none⟩) kc1).trans c1'; have k2 := (hSw.cell (p := ⟨h, 2, none⟩) kc2).trans c2; have k3 := (hSw.cell (p := ⟨b, t.toNat, none⟩) kcp).trans cp; go_simp; try (with_reducible rfl))
          try simp only [Act.put, List.setIfInBounds_toArray, List.set_cons_zero, List.set_cons_succ]
          refine wpAnyH_ready (rs := [36]) (by kernel_rfl) (by simp) ?_
          refine cons_ rfl (fun K hK => ?_) nil_
          go_simp
          (go_at_call 12; with_reducible refine (HWT.out _ JC1.out).mono ?_; rintro e W5 ⟨oa5, oc5, rfl, R, hb⟩; have R5 := hide R; have JC2 := hide (be_call hb JC1.out.size JC1.out); clear hb R)
          go_wp2_with fail
          refine hK.out _ _ JC2.out (fun _ => ?_)
          try simp only [Act.put, List.setIfInBounds_toArray, List.set_cons_zero, List.set_cons_succ]
          clear hK K
          refine wpAnyH_ready (rs := [41]) (by kernel_rfl) (by simp) ?_
          refine cons_ rfl (fun K hK => ?_) nil_
          go_simp
          (go_at_call 10; with_reducible refine (same_rd _ _ _ oa5 oL _ _ al al (by have := HL.out; have := HG.out; rw [← HMM.out]; omega) R5.out (RLL.out.below JC2.out) m m HMM.out HMM.out).mono ?_; rintro e W6 ⟨rfl, hb⟩; have JC3 := hide (be_call hb JC2.out.size JC2.out); clear hb)
          go_wp2_with fail
          refine hK.out _ _ JC3.out (fun _ => ?_)
          try simp only [Act.put, List.setIfInBounds_toArray, List.set_cons_zero, List.set_cons_succ]
          clear hK K
          refine take_ (i := 42) (v := ?_) rfl (by kernel_rfl) (by kernel_rfl) (by kernel_rfl) (fun _ _ _ h => h) (Or.inl ⟨by rfl, ?_⟩) JC3.out ?_
          rotate_left
          · (intro w5 hSw; have k0 := (hSw.cell (p := ⟨h, 0, none⟩) kc0).trans c0; have k1 := (hSw.cell (p := ⟨h, 1, none⟩) kc1).trans c1'; have k2 := (hSw.cell (p := ⟨h, 2, none⟩) kc2).trans c2; have k3 := (hSw.cell (p := ⟨b, t.toNat, none⟩) kcp).trans cp; go_simp; try (with_reducible rfl))
          try simp only [Act.put, List.setIfInBounds_toArray, List.set_cons_zero, List.set_cons_succ]
          refine take_ (i := 43) (v := ?_) rfl (by kernel_rfl) (by kernel_rfl) (by kernel_rfl) (fun _ _ _ h => h) (Or.inl ⟨by rfl, ?_⟩) JC3.out ?_
          rotate_left
          · (intro w5 hSw; have k0 := (hSw.cell (p := ⟨h, 0, none⟩) kc0).trans c0; have k1 := (hSw.cell (p := ⟨h, 1, none⟩) kc1).trans c1'; have k2 := (hSw.cell (p := ⟨h, 2, none⟩) kc2).trans c2; have k3 := (hSw.cell (p := ⟨b, t.toNat, none⟩) kcp).trans cp; go_simp; try (with_reducible rfl))
          try simp only [Act.put, List.setIfInBounds_toArray, List.set_cons_zero, List.set_cons_succ]
          refine wpAnyH_done (by kernel_rfl) ?_ _
          go_wp2
          exact ⟨⟨i + 1, now2, ps2, xs2, lb2, cap2, _, r2, s2, qc2, rc2, sc2, by have := HG.out; omega, by rw [HW.out]; simp, S.out.then_ JC3.out, I.out⟩, by rw [HW.out]; simp only [intOf]; have := HG.out; omega⟩
        · have hin2 : inB ps2 t = false := by simpa using hin
          rw [hin2] at HPP
          simp only [Bool.false_eq_true, if_false] at HPP
          obtain ⟨oP, eP⟩ : ∃ oP, sl q2 ps2.length qc2 = .slice oP ps2.length qc2 := ⟨_, rfl⟩
          rw [eP] at c1
          go_upto_region 27 with (go_at_call 15; with_reducible refine (HPP.out).mono ?_; rintro e v ⟨rfl, hv⟩; subst v)
          go_cut [15] (fun v15 wy => v15 = .bool false ∧ wy = wc)
          case first =>
            by_cases h0 : 0 ≤ t
            · have t1 : (0 ≤ t) = True := eq_true h0
              by_cases hl : t < (ps2.length : Int)
              · have t2 : (t < (ps2.length : Int)) = True := eq_true hl
                obtain ⟨p, hp⟩ : ∃ p, ps2[t.toNat]? = some p := ⟨_, List.getElem?_eq_getElem (by omega)⟩
                obtain ⟨b, rfl, hbh, cp, _⟩ := hq t.toNat (p - 1) (by rw [subs_get, hp]; rfl)
                have t3 : (0 ≤ p - 1) = False := eq_false (fun e => by
                  simp [inB, hp] at hin2
                  have := hin2 h0
                  omega)
                obtain ⟨z1, hz1⟩ : ∃ z1, z1 = p - 1 := ⟨_, rfl⟩
                rw [← hz1] at cp t3
                have e2 : oP = some ⟨b, 0, none⟩ := by injection eP with e; exact e.symm
                subst e2
                generalize ps2.length = M at *
                clear hin hin2 hp hq hz1 hbh eP
                go_wp2
                go_meet
                exact ⟨rfl, rfl⟩
              · have t2 : (t < (ps2.length : Int)) = False := eq_false hl
                generalize ps2.length = M at *
                clear hin hin2 hq eP hl
                go_wp2
                go_meet
                exact ⟨rfl, rfl⟩
            · have t1 : (0 ≤ t) = False := eq_false h0
              clear hin hin2 hq eP h0
              go_wp2
              go_meet
              exact ⟨rfl, rfl⟩
          case rest =>
            obtain ⟨rfl, rfl⟩ := hcut
            clear hin hin2 hq eP
            go_upto_region 28 with fail
            refine wp_region_held (S := fun w' => Below wc.heap.size wc w') (by kernel_rfl) ?_
            have JC0 := hide (show Below wc.heap.size wc wc.drew from be_drew (be_refl _))
            change wpAnyH _ _ _ _ _ _ _ _ wc.drew
            generalize hW0 : wc.drew = W0 at *
            clear hW0
            refine take_ (i := 0) (v := ?_) rfl (by kernel_rfl) (by kernel_rfl) (by kernel_rfl) (fun _ _ _ h => h) (Or.inl ⟨by rfl, ?_⟩) JC0.out ?_
            rotate_left
            · (intro w5 hSw; have k0 := (hSw.cell (p := ⟨h, 0, none⟩) kc0).trans c0; have k2 := (hSw.cell (p := ⟨h, 2, none⟩) kc2).trans c2; go_simp; try (with_reducible rfl))
            try simp only [Act.put, List.setIfInBounds_toArray, List.set_cons_zero, List.set_cons_succ]
            refine take_ (i := 1) (v := ?_) rfl (by kernel_rfl) (by kernel_rfl) (by kernel_rfl) (fun _ _ _ h => h) (Or.inl ⟨by rfl, ?_⟩) JC0.out ?_
            rotate_left
            · (intro w5 hSw; have k0 := (hSw.cell (p := ⟨h, 0, none⟩) kc0).trans c0; have k2 := (hSw.cell (p := ⟨h, 2, none⟩) kc2).trans c2; go_simp; try (with_reducible rfl))
            try simp only [Act.put, List.setIfInBounds_toArray, List.set_cons_zero, List.set_cons_succ]
            refine take_ (i := 2) (v := ?_) rfl (by kernel_rfl) (by kernel_rfl) (by kernel_rfl) (fun _ _ _ h => h) (Or.inl ⟨by rfl, ?_⟩) JC0.out ?_
            rotate_left
            · (intro w5 hSw; have k0 := (hSw.cell (p := ⟨h, 0, none⟩) kc0).trans c0; have k2 := (hSw.cell (p := ⟨h, 2, none⟩) kc2).trans c2; go_simp; try (with_reducible rfl))
            try simp only [Act.put, List.setIfInBounds_toArray, List.set_cons_zero, List.set_cons_succ]
            refine take_ (i := 3) (v := ?_) rfl (by kernel_rfl) (by kernel_rfl) (by kernel_rfl) (fun _ _ _ h => h) (Or.inl ⟨by rfl, ?_⟩) JC0.out ?_
            rotate_left
            · (intro w5 hSw; have k0 := (hSw.cell (p := ⟨h, 0, none⟩) kc0).trans c0; have k2 := (hSw.cell (p := ⟨h, 2, none⟩) kc2).trans c2; go_simp; try (with_reducible rfl))
            try simp only [Act.put, List.setIfInBounds_toArray, List.set_cons_zero, List.set_cons_succ]
            refine take_ (i := 4) (v := ?_) rfl (by kernel_rfl) (by kernel_rfl) (by kernel_rfl) (fun _ _ _ h => h) (Or.inl ⟨by rfl, ?_⟩) JC0.out ?_
            rotate_left
            · (intro w5 hSw; have k0 := (hSw.cell (p := ⟨h, 0, none⟩) kc0).trans c0; have k2 := (hSw.cell (p := ⟨h, 2, none⟩) kc2).trans c2; go_simp; try (with_reducible rfl))
            try simp only [Act.put, List.setIfInBounds_toArray, List.set_cons_zero, List.set_cons_succ]
            refine take_ (i := 5) (v := ?_) rfl (by kernel_rfl) (by kernel_rfl) (by kernel_rfl) (fun _ _ _ h => h) (Or.inl ⟨by rfl, ?_⟩) JC0.out ?_
            rotate_left
            · (intro w5 hSw; have k0 := (hSw.cell (p := ⟨h, 0, none⟩) kc0).trans c0; have k2 := (hSw.cell (p := ⟨h, 2, none⟩) kc2).trans c2; go_simp; try (with_reducible rfl))
            try simp only [Act.put, List.setIfInBounds_toArray, List.set_cons_zero, List.set_cons_succ]
            refine take_ (i := 6) (v := undef) rfl (by kernel_rfl) (by kernel_rfl) (by kernel_rfl) (fun _ _ _ h => h) (Or.inr ⟨by rfl, rfl⟩) JC0.out ?_
            try simp only [Act.put, List.setIfInBounds_toArray, List.set_cons_zero, List.set_cons_succ]
            refine take_ (i := 7) (v := undef) rfl (by kernel_rfl) (by kernel_rfl) (by kernel_rfl) (fun _ _ _ h => h) (Or.inr ⟨by rfl, rfl⟩) JC0.out ?_
            try simp only [Act.put, List.setIfInBounds_toArray, List.set_cons_zero, List.set_cons_succ]
            refine take_ (i := 8) (v := undef) rfl (by kernel_rfl) (by kernel_rfl) (by kernel_rfl) (fun _ _ _ h => h) (Or.inr ⟨by rfl, rfl⟩) JC0.out ?_
            try simp only [Act.put, List.setIfInBounds_toArray, List.set_cons_zero, List.set_cons_succ]
            refine take_ (i := 9) (v := undef) rfl (by kernel_rfl) (by kernel_rfl) (by kernel_rfl) (fun _ _ _ h => h) (Or.inr ⟨by rfl, rfl⟩) JC0.out ?_
            try simp only [Act.put, List.setIfInBounds_toArray, List.set_cons_zero, List.set_cons_succ]
            refine take_ (i := 10) (v := undef) rfl (by kernel_rfl) (by kernel_rfl) (by kernel_rfl) (fun _ _ _ h => h) (Or.inr ⟨by rfl, rfl⟩) JC0.out ?_
            try simp only [Act.put, List.setIfInBounds_toArray, List.set_cons_zero, List.set_cons_succ]
            refine take_ (i := 11) (v := undef) rfl (by kernel_rfl) (by kernel_rfl) (by kernel_rfl) (fun _ _ _ h => h) (Or.inr ⟨by rfl, rfl⟩) JC0.out ?_
            try simp only [Act.put, List.setIfInBounds_toArray, List.set_cons_zero, List.set_cons_succ]
            refine take_ (i := 12) (v := undef) rfl (by kernel_rfl) (by kernel_rfl) (by kernel_rfl) (fun _ _ _ h => h) (Or.inr ⟨by rfl, rfl⟩) JC0.out ?_
            try simp only [Act.put, List.setIfInBounds_toArray, List.set_cons_zero, List.set_cons_succ]
            refine take_ (i := 13) (v := undef) rfl (by kernel_rfl) (by kernel_rfl) (by kernel_rfl) (fun _ _ _ h => h) (Or.inr ⟨by rfl, rfl⟩) JC0.out ?_
            try simp only [Act.put, List.setIfInBounds_toArray, List.set_cons_zero, List.set_cons_succ]
            refine take_ (i := 14) (v := undef) rfl (by kernel_rfl) (by kernel_rfl) (by kernel_rfl) (fun _ _ _ h => h) (Or.inr ⟨by rfl, rfl⟩) JC0.out ?_
            try simp only [Act.put, List.setIfInBounds_toArray, List.set_cons_zero, List.set_cons_succ]
            refine take_ (i := 15) (v := ?_) rfl (by kernel_rfl) (by kernel_rfl) (by kernel_rfl) (fun _ _ _ h => h) (Or.inl ⟨by rfl, ?_⟩) JC0.out ?_
            rotate_left
            · (intro w5 hSw; have k0 := (hSw.cell (p := ⟨h, 0, none⟩) kc0).trans c0; have k2 := (hSw.cell (p := ⟨h, 2, none⟩) kc2).trans c2; go_simp; try (with_reducible rfl))
            try simp only [Act.put, List.setIfInBounds_toArray, List.set_cons_zero, List.set_cons_succ]
            refine take_ (i := 16) (v := ?_) rfl (by kernel_rfl) (by kernel_rfl) (by kernel_rfl) (fun _ _ _ h => h) (Or.inl ⟨by rfl, ?_⟩) JC0.out ?_
            rotate_left
            · (intro w5 hSw; have k0 := (hSw.cell (p := ⟨h, 0, none⟩) kc0).trans c0; have k2 := (hSw.cell (p := ⟨h, 2, none⟩) kc2).trans c2; go_simp; try (with_reducible rfl))
            try simp only [Act.put, List.setIfInBounds_toArray, List.set_cons_zero, List.set_cons_succ]
            refine take_ (i := 17) (v := ?_) rfl (by kernel_rfl) (by kernel_rfl) (by kernel_rfl) (fun _ _ _ h => h) (Or.inl ⟨by rfl, ?_⟩) JC0.out ?_
            rotate_left
            · (intro w5 hSw; have k0 := (hSw.cell (p := ⟨h, 0, none⟩) kc0).trans c0; have k2 := (hSw.cell (p := ⟨h, 2, none⟩) kc2).trans c2; go_simp; try (with_reducible rfl))
            try simp only [Act.put, List.setIfInBounds_toArray, List.set_cons_zero, List.set_cons_succ]
            refine take_ (i := 18) (v := ?_) rfl (by kernel_rfl) (by kernel_rfl) (by kernel_rfl) (fun _ _ _ h => h) (Or.inl ⟨by rfl, ?_⟩) JC0.out ?_
            rotate_left
            · (intro w5 hSw; have k0 := (hSw.cell (p := ⟨h, 0, none⟩) kc0).trans c0; have k2 := (hSw.cell (p := ⟨h, 2, none⟩) kc2).trans c2; go_simp; try (with_reducible rfl))
            try simp only [Act.put, List.setIfInBounds_toArray, List.set_cons_zero, List.set_cons_succ]
            refine take_ (i := 19) (v := ?_) rfl (by kernel_rfl) (by kernel_rfl) (by kernel_rfl) (fun _ _ _ h => h) (Or.inl ⟨by rfl, ?_⟩) JC0.out ?_
            rotate_left
            · (intro w5 hSw; have k0 := (hSw.cell (p := ⟨h, 0, none⟩) kc0).trans c0; have k2 := (hSw.cell (p := ⟨h, 2, none⟩) kc2).trans c2; go_simp; try (with_reducible rfl))
            try simp only [Act.put, List.setIfInBounds_toArray, List.set_cons_zero, List.set_cons_succ]
            refine take_ (i := 20) (v := ?_) rfl (by kernel_rfl) (by kernel_rfl) (by kernel_rfl) (fun _ _ _ h => h) (Or.inl ⟨by rfl, ?_⟩) JC0.out ?_
            rotate_left
            · (intro w5 hSw; have k0 := (hSw.cell (p := ⟨h, 0, none⟩) kc0).trans c0; have k2 := (hSw.cell (p := ⟨h, 2, none⟩) kc2).trans c2; go_simp; try (with_reducible rfl))
            try simp only [Act.put, List.setIfInBounds_toArray, List.set_cons_zero, List.set_cons_succ]
            refine take_ (i := 21) (v := ?_) rfl (by kernel_rfl) (by kernel_rfl) (by kernel_rfl) (fun _ _ _ h => h) (Or.inl ⟨by rfl, ?_⟩) JC0.out ?_
            rotate_left
            · (intro w5 hSw; have k0 := (hSw.cell (p := ⟨h, 0, none⟩) kc0).trans c0; have k2 := (hSw.cell (p := ⟨h, 2, none⟩) kc2).trans c2; go_simp; try (with_reducible rfl))
            try simp only [Act.put, List.setIfInBounds_toArray, List.set_cons_zero, List.set_cons_succ]
            refine take_ (i := 22) (v := ?_) rfl (by kernel_rfl) (by kernel_rfl) (by kernel_rfl) (fun _ _ _ h => h) (Or.inl ⟨by rfl, ?_⟩) JC0.out ?_
            rotate_left
            · (intro w5 hSw; have k0 := (hSw.cell (p := ⟨h, 0, none⟩) kc0).trans c0; have k2 := (hSw.cell (p := ⟨h, 2, none⟩) kc2).trans c2; go_simp; try (with_reducible rfl))
            try simp only [Act.put, List.setIfInBounds_toArray, List.set_cons_zero, List.set_cons_succ]
            refine take_ (i := 23) (v := ?_) rfl (by kernel_rfl) (by kernel_rfl) (by kernel_rfl) (fun _ _ _ h => h) (Or.inl ⟨by rfl, ?_⟩) JC0.out ?_
            rotate_left
            · (intro w5 hSw; have k0 := (hSw.cell (p := ⟨h, 0, none⟩) kc0).trans c0; have k2 := (hSw.cell (p := ⟨h, 2, none⟩) kc2).trans c2; go_simp; try (with_reducible rfl))
            try simp only [Act.put, List.setIfInBounds_toArray, List.set_cons_zero, List.set_cons_succ]
            refine take_ (i := 24) (v := ?_) rfl (by kernel_rfl) (by kernel_rfl) (by kernel_rfl) (fun _ _ _ h => h) (Or.inl ⟨by rfl, ?_⟩) JC0.out ?_
            rotate_left
            · (intro w5 hSw; have k0 := (hSw.cell (p := ⟨h, 0, none⟩) kc0).trans c0; have k2 := (hSw.cell (p := ⟨h, 2, none⟩) kc2).trans c2; go_simp; try (with_reducible rfl))
            try simp only [Act.put, List.setIfInBounds_toArray, List.set_cons_zero, List.set_cons_succ]
            refine take_ (i := 25) (v := ?_) rfl (by kernel_rfl) (by kernel_rfl) (by kernel_rfl) (fun _ _ _ h => h) (Or.inl ⟨by rfl, ?_⟩) JC0.out ?_
            rotate_left
            · (intro w5 hSw; have k0 := (hSw.cell (p := ⟨h, 0, none⟩) kc0).trans c0; have k2 := (hSw.cell (p := ⟨h, 2, none⟩) kc2).trans c2; go_simp; try (with_reducible rfl))
            try simp only [Act.put, List.setIfInBounds_toArray, List.set_cons_zero, List.set_cons_succ]
            refine take_ (i := 26) (v := ?_) rfl (by kernel_rfl) (by kernel_rfl) (by kernel_rfl) (fun _ _ _ h => h) (Or.inl ⟨by rfl, ?_⟩) JC0.out ?_
            rotate_left
            · (intro w5 hSw; have k0 := (hSw.cell (p := ⟨h, 0, none⟩) kc0).trans c0; have k2 := (hSw.cell (p := ⟨h, 2, none⟩) kc2).trans c2; go_simp; try (with_reducible rfl))
            try simp only [Act.put, List.setIfInBounds_toArray, List.set_cons_zero, List.set_cons_succ]
            refine take_ (i := 28) (v := ?_) rfl (by kernel_rfl) (by kernel_rfl) (by kernel_rfl) (fun _ _ _ h => h) (Or.inl ⟨by rfl, ?_⟩) JC0.out ?_
            rotate_left
            · (intro w5 hSw; have k0 := (hSw.cell (p := ⟨h, 0, none⟩) kc0).trans c0; have k2 := (hSw.cell (p := ⟨h, 2, none⟩) kc2).trans c2; go_simp; try (with_reducible rfl))
            try simp only [Act.put, List.setIfInBounds_toArray, List.set_cons_zero, List.set_cons_succ]
            refine take_ (i := 29) (v := ?_) rfl (by kernel_rfl) (by kernel_rfl) (by kernel_rfl) (fun _ _ _ h => h) (Or.inl ⟨by rfl, ?_⟩) JC0.out ?_
            rotate_left
            · (intro w5 hSw; have k0 := (hSw.cell (p := ⟨h, 0, none⟩) kc0).trans c0; have k2 := (hSw.cell (p := ⟨h, 2, none⟩) kc2).trans c2; go_simp; try (with_reducible rfl))
            try simp only [Act.put, List.setIfInBounds_toArray, List.set_cons_zero, List.set_cons_succ]
            refine take_ (i := 30) (v := ?_) rfl (by kernel_rfl) (by kernel_rfl) (by kernel_rfl) (fun _ _ _ h => h) (Or.inl ⟨by rfl, ?_⟩) JC0.out ?_
            rotate_left
            · (intro w5 hSw; have k0 := (hSw.cell (p := ⟨h, 0, none⟩) kc0).trans c0; have k2 := (hSw.cell (p := ⟨h, 2, none⟩) kc2).trans c2; go_simp; try (with_reducible rfl))
            try simp only [Act.put, List.setIfInBounds_toArray, List.set_cons_zero, List.set_cons_succ]
            refine take_ (i := 31) (v := ?_) rfl (by kernel_rfl) (by kernel_rfl) (by kernel_rfl) (fun _ _ _ h => h) (Or.inl ⟨by rfl, ?_⟩) JC0.out ?_
            rotate_left
            · (intro w5 hSw; have k0 := (hSw.cell (p := ⟨h, 0, none⟩) kc0).trans c0; have k2 := (hSw.cell (p := ⟨h, 2, none⟩) kc2).trans c2; go_simp; try (with_reducible rfl))
            try simp only [Act.put, List.setIfInBounds_toArray, List.set_cons_zero, List.set_cons_succ]
            refine wpAnyH_ready (rs := [27]) (by kernel_rfl) (by simp) ?_
            refine cons_ rfl (fun K hK => ?_) nil_
            go_simp
            (go_at_call 11; with_reducible refine (now_calls w _ g pb _ _ _ _ _ (S.out.then_ JC0.out).ep).mono ?_; rintro e v ⟨rfl, hv⟩; subst v; have JC1 := JC0)
            go_wp2_with fail
            refine hK.out _ _ JC1.out (fun _ => ?_)
            try simp only [Act.put, List.setIfInBounds_toArray, List.set_cons_zero, List.set_cons_succ]
            clear hK K
            refine take_ (i := 32) (v := ?_) rfl (by kernel_rfl) (by kernel_rfl) (by kernel_rfl) (fun _ _ _ h => h) (Or.inl ⟨by rfl, ?_⟩) JC1.out ?_
            rotate_left
            · (intro w5 hSw; have k0 := (hSw.cell (p := ⟨h, 0, none⟩) kc0).trans c0; have k2 := (hSw.cell (p := ⟨h, 2, none⟩) kc2).trans c2; go_simp; try (with_reducible rfl))
            try simp only [Act.put, List.setIfInBounds_toArray, List.set_cons_zero, List.set_cons_succ]
            refine take_ (i := 33) (v := ?_) rfl (by kernel_rfl) (by kernel_rfl) (by kernel_rfl) (fun _ _ _ h => h) (Or.inl ⟨by rfl, ?_⟩) JC1.out ?_
            rotate_left
            · (intro w5 hSw; have k0 := (hSw.cell (p := ⟨h, 0, none⟩) kc0).trans c0; have k2 := (hSw.cell (p := ⟨h, 2, none⟩) kc2).trans c2; go_simp; try (with_reducible rfl))
            try simp only [Act.put, List.setIfInBounds_toArray, List.set_cons_zero, List.set_cons_succ]
            refine take_ (i := 34) (v := ?_) rfl (by kernel_rfl) (by kernel_rfl) (by kernel_rfl) (fun _ _ _ h => h) (Or.inl ⟨by rfl, ?_⟩) JC1.out ?_
            rotate_left
            · (intro w5 hSw; have k0 := (hSw.cell (p := ⟨h, 0, none⟩) kc0).trans c0; have k2 := (hSw.cell (p := ⟨h, 2, none⟩) kc2).trans c2; go_simp; try (with_reducible rfl))
            try simp only [Act.put, List.setIfInBounds_toArray, List.set_cons_zero, List.set_cons_succ]
            refine take_ (i := 35) (v := ?_) rfl (by kernel_rfl) (by kernel_rfl) (by kernel_rfl) (fun _ _ _ h => h) (Or.inl ⟨by rfl, ?_⟩) JC1.out ?_
            rotate_left
            · (intro w5 hSw; have k0 := (hSw.cell (p := ⟨h, 0, none⟩) kc0).trans c0; have k2 := (hSw.cell (p := ⟨h, 2, none⟩) kc2).trans c2; go_simp; try (with_reducible rfl))
            try simp only [Act.put, List.setIfInBounds_toArray, List.set_cons_zero, List.set_cons_succ]
            refine take_ (i := 37) (v := ?_) rfl (by kernel_rfl) (by kernel_rfl) (by kernel_rfl) (fun _ _ _ h => h) (Or.inl ⟨by rfl, ?_⟩) JC1.out ?_
            rotate_left
            · (intro w5 hSw; have k0 := (hSw.cell (p := ⟨h, 0, none⟩) kc0).trans c0; have k2 := (hSw.cell (p := ⟨h, 2, none⟩) kc2).trans c2; go_simp; try (with_reducible rfl))
            try simp only [Act.put, List.setIfInBounds_toArray, List.set_cons_zero, List.set_cons_succ]
            refine take_ (i := 38) (v := ?_) rfl (by kernel_rfl) (by kernel_rfl) (by kernel_rfl) (fun _ _ _ h => h) (Or.inl ⟨by rfl, ?_⟩) JC1.out ?_
            rotate_left
            · (intro w5 hSw; have k0 := (hSw.cell (p := ⟨h, 0, none⟩) kc0).trans c0; have k2 := (hSw.cell (p := ⟨h, 2, none⟩) kc2).trans c2; go_simp; try (with_reducible rfl))
            try simp only [Act.put, List.setIfInBounds_toArray, List.set_cons_zero, List.set_cons_succ]
            refine take_ (i := 39) (v := ?_) rfl (by kernel_rfl) (by kernel_rfl) (by kernel_rfl) (fun _ _ _ h => h) (Or.inl ⟨by rfl, ?_⟩) JC1.out ?_
            rotate_left
            · (intro w5 hSw; have k0 := (hSw.cell (p := ⟨h, 0, none⟩) kc0).trans c0; have k2 := (hSw.cell (p := ⟨h, 2, none⟩) kc2).trans c2; go_simp; try (with_reducible rfl))
            try simp only [Act.put, List.setIfInBounds_toArray, List.set_cons_zero, List.set_cons_succ]
            refine take_ (i := 40) (v := ?_) rfl (by kernel_rfl) (by kernel_rfl) (by kernel_rfl) (fun _ _ _ h => h) (Or.inl ⟨by rfl, ?_⟩) JC1.out ?_
            rotate_left
            · (intro w5 hSw; have k0 := (hSw.cell (p := ⟨h, 0, none⟩) kc0).trans c0; have k2 := (hSw.cell (p := ⟨h, 2, none⟩) kc2).trans c2; go_simp; try (with_reducible rfl))
            try simp only [Act.put, List.setIfInBounds_toArray, List.set_cons_zero, List.set_cons_succ]
            refine wpAnyH_ready (rs := [36]) (by kernel_rfl) (by simp) ?_
            refine cons_ rfl (fun K hK => ?_) nil_
            go_simp
            (go_at_call 12; with_reducible refine (HWT.out _ JC1.out).mono ?_; rintro e W5 ⟨oa5, oc5, rfl, R, hb⟩; have R5 := hide R; have JC2 := hide (be_call hb JC1.out.size JC1.out); clear hb R)
            go_wp2_with fail
            refine hK.out _ _ JC2.out (fun _ => ?_)
            try simp only [Act.put, List.setIfInBounds_toArray, List.set_cons_zero, List.set_cons_succ]
            clear hK K
            refine wpAnyH_ready (rs := [41]) (by kernel_rfl) (by simp) ?_
            refine cons_ rfl (fun K hK => ?_) nil_
            go_simp
            (go_at_call 10; with_reducible refine (same_rd _ _ _ oa5 oL _ _ al al (by have := HL.out; have := HG.out; rw [← HMM.out]; omega) R5.out (RLL.out.below JC2.out) m m HMM.out HMM.out).mono ?_; rintro e W6 ⟨rfl, hb⟩; have JC3 := hide (be_call hb JC2.out.size JC2.out); clear hb)
            go_wp2_with fail
            refine hK.out _ _ JC3.out (fun _ => ?_)
            try simp only [Act.put, List.setIfInBounds_toArray, List.set_cons_zero, List.set_cons_succ]
            clear hK K
            refine take_ (i := 42) (v := ?_) rfl (by kernel_rfl) (by kernel_rfl) (by kernel_rfl) (fun _ _ _ h => h) (Or.inl ⟨by rfl, ?_⟩) JC3.out ?_
            rotate_left
            · (intro w5 hSw; have k0 := (hSw.cell (p := ⟨h, 0, none⟩) kc0).trans c0; have k2 := (hSw.cell (p := ⟨h, 2, none⟩) kc2).trans c2; go_simp; try (with_reducible rfl))
            try simp only [Act.put, List.setIfInBounds_toArray, List.set_cons_zero, List.set_cons_succ]
            refine take_ (i := 43) (v := ?_) rfl (by kernel_rfl) (by kernel_rfl) (by kernel_rfl) (fun _ _ _ h => h) (Or.inl ⟨by rfl, ?_⟩) JC3.out ?_
            rotate_left
            · (intro w5 hSw; have k0 := (hSw.cell (p := ⟨h, 0, none⟩) kc0).trans c0; have k2 := (hSw.cell (p := ⟨h, 2, none⟩) kc2).trans c2; go_simp; try (with_reducible rfl))
            try simp only [Act.put, List.setIfInBounds_toArray, List.set_cons_zero, List.set_cons_succ]
            refine wpAnyH_done (by kernel_rfl) ?_ _
            go_wp2
            exact ⟨⟨i + 1, now2, ps2, xs2, lb2, cap2, _, r2, s2, qc2, rc2, sc2, by have := HG.out; omega, by rw [HW.out]; simp, S.out.then_ JC3.out, I.out⟩, by rw [HW.out]; simp only [intOf]; have := HG.out; omega⟩
    · have hcase : (((i : Int) < (L : Int)) = False) ∨ (((i : Int) < (L : Int)) = True ∧ ((i : Int) < 80) = False) := by
        by_cases q : (i : Int) < (L : Int)
        · exact .inr ⟨eq_true q, eq_false (fun q3 => hgo ⟨by omega, by omega⟩)⟩
        · exact .inl (eq_false q)
      clear hgo hi
      rcases hcase with p1 | ⟨p1, p2⟩
      all_goals
        go_wp2_with (go_at_call 13; refine (awake_calls _).mono ?_; rintro e W2 ⟨rfl, hb⟩; have M10 := hide (be_call hb S.out.ep.below.size S.out.ep.below); clear hb)
        go_ret
        exact ⟨rfl, M10.out⟩
end Go.Proofs.Ytnpeklimpdljbaa.EpocPlaysW


