/- The reference's epochs: what Advance does: contracts, for every state. -/
import Derived.Test.YtnpeklimpdljbaaEpocRef2
namespace Go.Proofs.Ytnpeklimpdljbaa.EpocRef4
open Go.RowKit Go.Proofs.YtnpeklimpdljbaaKit Go.Proofs.YtnpeklimpdljbaaW.PrintWords Go.Proofs.YtnpeklimpdljbaaW.PrintLast Go.Proofs.Ytnpeklimpdljbaa.EpocBase Go.Proofs.Ytnpeklimpdljbaa.EpocOps Go.Proofs.Ytnpeklimpdljbaa.EpocRows Go.Proofs.Ytnpeklimpdljbaa.EpocAdv Go.Proofs.Ytnpeklimpdljbaa.EpocUse Go.Proofs.Ytnpeklimpdljbaa.EpocRef Go.Proofs.Ytnpeklimpdljbaa.EpocRef2 Go.Proofs.Ytnpeklimpdljbaa.Split
attribute [local go_sem] cell_alloc_some cell_alloc2_some cell_alloc3_some cell_alloc4_some
attribute [local go_sem ↓] Go.wp_at_zero Go.wp_at_succ
set_option linter.unusedVariables false
set_option linter.unusedSimpArgs false
/-- A thread that is pinned earlier keeps the epoch. -/
def Bad (now p : Int) : Prop := 0 ≤ p ∧ p < now
theorem oa_of {W : World} {base : Nat} {q : Option Nat} {c : Nat} {l : List Int} (o : Row W base q c l) : ∃ oa : Option Addr, sl q l.length c = .slice oa l.length c ∧ ∀ (i : Nat) (z : Int), l[i]? = some z → ∃ b, oa = some ⟨b, 0, none⟩ ∧ b < W.heap.size ∧ W.cell? ⟨b, i, none⟩ = some (.int .i64 z) :=
  ⟨q.map fun b => ⟨b, 0, none⟩, rfl, fun i z hz => by
    obtain ⟨b, h1, h2, h3⟩ := Row.at_ o hz
    exact ⟨b, by rw [h1]; rfl, World.block_lt_of_cell? W _ h3, h3⟩⟩
set_option maxHeartbeats 8000000 in
set_option maxRecDepth 100000 in
theorem radv_no (k : Nat) (p : Int) (w W : World) (h : Nat) (q r s : Option Nat) (qc rc sc : Nat) (now : Int) (ps L T : List Int) (f : Rf w W h q r s qc rc sc now ps L T) (hl : ps.length ≤ 1000) (hk : ps[k]? = some p) (hp : Bad now p) :
    Calls Try.prog 21 #[.pointer (some ⟨h, 0, none⟩)] W fun e W' => e = .returned (.tuple #[.slice none 0 0, .bool false]) ∧ Below W.heap.size W W' := by
  obtain ⟨c0, c1, _, _⟩ := f.c
  obtain ⟨oa, e1, hx⟩ := oa_of f.pins
  rw [e1] at c1
  have HX := hide hx
  have hg := bs_lt f.obj
  have hkl := (List.getElem?_eq_some_iff.1 hk).1
  obtain ⟨n, hn⟩ : ∃ n, n = ps.length := ⟨_, rfl⟩
  rw [← hn] at c1 hl hkl
  have HN := hide hn
  have HK := hide (And.intro hk hp)
  clear f e1 hx hn hk hp
  go_enter Try.func21, Try.ntmps21
  go_wp2
  go_loopw [4] (fun v4 wr => ∃ i : Nat, i ≤ k ∧ v4 = .int .i64 (i : Int) ∧ Below W.heap.size W wr) (fun v4 _ => n - (intOf v4).toNat)
  case atStart => exact ⟨0, Nat.zero_le _, rfl, be_refl _⟩
  case round =>
    obtain ⟨i, hi9, rfl, hB⟩ := hrel
    have BE := hide hB
    have p1 : ((i : Int) < (n : Int)) = True := eq_true (by omega)
    have p1' : (i : Int) < (n : Int) := by omega
    have p0 : (0 : Int) ≤ (i : Int) := by omega
    obtain ⟨z, hz⟩ : ∃ z, ps[i]? = some z := ⟨_, List.getElem?_eq_getElem (by have := HN.out; omega)⟩
    obtain ⟨b, rfl, hb, x0⟩ := HX.out i z hz
    have y0 : wr.cell? ⟨h, 0, none⟩ = _ := (hB.cell (p := ⟨h, 0, none⟩) hg).trans c0
    have y1 : wr.cell? ⟨h, 1, none⟩ = _ := (hB.cell (p := ⟨h, 1, none⟩) hg).trans c1
    have y2 : wr.cell? ⟨b, i, none⟩ = _ := (hB.cell (p := ⟨b, i, none⟩) hb).trans x0
    have hw : wrap64 ((i : Int) + 1) = (i : Int) + 1 := by unfold wrap64; omega
    clear hB c0 c1 x0 hb
    by_cases h1 : 0 ≤ z
    · have q1 : (0 ≤ z) = True := eq_true h1
      by_cases h2 : z < now
      · have q2 : (z < now) = True := eq_true h2
        clear hz h1 h2
        go_upto_region 4 with fail
        go_quiet (fail)
        go_wp2
        go_ret2
        exact ⟨rfl, by first | exact BE.out | exact be_drew BE.out | exact be_drewN BE.out | exact BE.out.drewN _⟩
      · have q2 : (z < now) = False := eq_false h2
        have hik : i < k := by
          rcases Nat.lt_or_ge i k with h | h
          · exact h
          · exfalso
            have : i = k := by omega
            subst this
            rw [HK.out.1] at hz; cases hz
            exact h2 HK.out.2.2
        clear hz h1 h2
        go_upto_region 4 with fail
        go_quiet (fail)
        go_wp2
        refine ⟨⟨i + 1, by omega, by simp, by first | exact BE.out | exact be_drew BE.out | exact be_drewN BE.out | exact BE.out.drewN _⟩, ?_⟩
        simp only [intOf]; omega
    · have q1 : (0 ≤ z) = False := eq_false h1
      have hik : i < k := by
        rcases Nat.lt_or_ge i k with h | h
        · exact h
        · exfalso
          have : i = k := by omega
          subst this
          rw [HK.out.1] at hz; cases hz
          exact h1 HK.out.2.1
      clear hz h1
      go_upto_region 4 with fail
      go_quiet (fail)
      go_wp2
      refine ⟨⟨i + 1, by omega, by simp, by first | exact BE.out | exact be_drew BE.out | exact be_drewN BE.out | exact BE.out.drewN _⟩, ?_⟩
      simp only [intOf]; omega
theorem Rf.set_now {w W : World} {h : Nat} {q r s : Option Nat} {qc rc sc : Nat} {now : Int} {ps L T : List Int} (f : Rf w W h q r s qc rc sc now ps L T) (m : Int) : Rf w (W.setCell ⟨h, 0, none⟩ (.int .i64 m)) h q r s qc rc sc m ps L T := by
  have far : ∀ {lb : Option Nat} {c : Nat} {l : List Int}, Row W (h + 1) lb c l → Row (W.setCell ⟨h, 0, none⟩ (.int .i64 m)) (h + 1) lb c l := fun o => own_far o (fun b e => by have := own_ge o b e; dsimp only; omega) _
  refine ⟨?_, far f.pins, far f.l, far f.when, f.qr, f.qs, f.rs, f.ge, be_set f.below f.ge⟩
  have := bs_same (i := 0) (v := .int .i64 m) f.obj
  simpa using this
theorem Fq.now {W : World} {h : Nat} {q r s : Option Nat} (v : Value) : Fq h W q r s (W.setCell ⟨h, 0, none⟩ v) q r s :=
  ⟨fun k _ h1 _ _ _ => Below.heap_setCell W _ _ k h1, fun k _ a b c => ⟨a, b, c⟩, Nat.le_of_eq (World.size_setCell W _ _).symm⟩
/-- The end of it: the two rows that stay are stored. -/
theorem radvanced {w W wr : World} {h : Nat} {q r s r' s' : Option Nat} {qc rc sc rc' sc' : Nat} {now : Int} {ps L T L' T' : List Int} (f : Rf w W h q r s qc rc sc now ps L T) (hb : Below W.heap.size W wr)
    (hL : Own wr W.heap.size 3 1 r' L'.length rc' (intsOf L')) (hT : Own wr W.heap.size 3 1 s' T'.length sc' (intsOf T')) (hne : ∀ b, r' = some b → s' ≠ some b) :
    Rf w ((wr.setCell ⟨h, 2, none⟩ (sl r' L'.length rc')).setCell ⟨h, 3, none⟩ (sl s' T'.length sc')) h q r' s' qc rc' sc' now ps L' T' ∧ Fq h W q r s ((wr.setCell ⟨h, 2, none⟩ (sl r' L'.length rc')).setCell ⟨h, 3, none⟩ (sl s' T'.length sc')) q r' s' := by
  have hgs := bs_lt f.obj
  have hL2 := own_ge hL
  have hT2 := own_ge hT
  have hq := own_ge f.pins
  have far : ∀ {lb : Option Nat} {e : TypeId} {k n c : Nat} {l : List Value}, Own wr (h + 1) e k lb n c l → Own ((wr.setCell ⟨h, 2, none⟩ (sl r' L'.length rc')).setCell ⟨h, 3, none⟩ (sl s' T'.length sc')) (h + 1) e k lb n c l := fun o =>
    own_far (own_far o (fun b e => by have := own_ge o b e; dsimp only; omega) _) (fun b e => by have := own_ge o b e; dsimp only; omega) _
  refine ⟨⟨?_, far (f.pins.below hb), far (hL.base (by omega)), far (hT.base (by omega)), ?_, ?_, hne, f.ge, be_set (be_set (be_call hb f.below.size f.below) f.ge) f.ge⟩, ?_, ?_, ?_⟩
  · have h1 := bs_same (i := 2) (v := sl r' L'.length rc') (bs_below hb hgs f.obj)
    have h2 := bs_same (i := 3) (v := sl s' T'.length sc') h1
    simpa using h2
  · intro b e e2
    have := hq b e; have := hL2 b e2; omega
  · intro b e e2
    have := hq b e; have := hT2 b e2; omega
  · intro k hk a _ _ _
    exact (Below.heap_setCell _ _ _ k (by dsimp only; omega)).trans ((Below.heap_setCell wr _ _ k (by dsimp only; omega)).trans (hb.block k hk))
  · intro k hk a b c
    refine ⟨a, fun e => ?_, fun e => ?_⟩
    · have := hL2 k e.symm; omega
    · have := hT2 k e.symm; omega
  · rw [World.size_setCell, World.size_setCell]; exact hb.size
def JQ (S0 : Nat) (W1 : World) (o1 : Option Nat) (c1 : Nat) (us : List Int) (M w2 : World) : Prop := Below S0 W1 w2 ∧ Own w2 S0 3 1 o1 us.length c1 (intsOf us) ∧ M.heap.size ≤ w2.heap.size
section
variable {S0 : Nat} {W1 : World} {o1 row : Option Nat} {c1 : Nat} {us : List Int} {M : World}
theorem jq_none (hS : S0 ≤ M.heap.size) (w1 w2 : World) (j : JQ S0 W1 o1 c1 us M w1) (hg : w1.grownBy w2 none) : JQ S0 W1 o1 c1 us M w2 :=
  ⟨below_grown j.1 (Nat.le_trans hS j.2.2) hg (fun b e => by cases e), Own.grown j.2.1 hg (fun b _ e => by cases e), Nat.le_trans j.2.2 hg.size⟩
theorem jq_row (hS : S0 ≤ M.heap.size) (hr : ∀ b, row = some b → S0 ≤ b) (hd : ∀ b, o1 = some b → row ≠ some b) (w1 w2 : World) (j : JQ S0 W1 o1 c1 us M w1) (hg : w1.grownBy w2 row) : JQ S0 W1 o1 c1 us M w2 :=
  ⟨below_grown j.1 (Nat.le_trans hS j.2.2) hg hr, Own.grown j.2.1 hg (fun b e e2 => hd b e e2.symm), Nat.le_trans j.2.2 hg.size⟩
theorem jq_size (w1 : World) (j : JQ S0 W1 o1 c1 us M w1) : M.heap.size ≤ w1.heap.size := j.2.2
end
set_option maxHeartbeats 16000000 in
set_option maxRecDepth 100000 in
theorem radv_yes (w W : World) (h : Nat) (q r s : Option Nat) (qc rc sc : Nat) (now : Int) (ps : List Int) (xs : List (Int × Int)) (f : Rf w W h q r s qc rc sc now ps (xs.map (·.1)) (xs.map (·.2))) (hl : ps.length ≤ 1000) (hxl : xs.length ≤ 1000000) (hnow : 0 ≤ now ∧ now ≤ 1000000) (hok : ∀ p ∈ ps, ¬ Bad now p) :
    Calls Try.prog 21 #[.pointer (some ⟨h, 0, none⟩)] W fun e W' => ∃ o1 c1 r' s' rc' sc', e = .returned (.tuple #[sl o1 (out now xs).length c1, .bool true]) ∧ Own W' W.heap.size 3 1 o1 (out now xs).length c1 (intsOf (out now xs)) ∧ Rf w W' h q r' s' qc rc' sc' (now + 1) ps ((rest now xs).map (·.1)) ((rest now xs).map (·.2)) ∧ Fq h W q r s W' q r' s' := by
  obtain ⟨c0, c1, _, _⟩ := f.c
  obtain ⟨oa, e1, hx⟩ := oa_of f.pins
  rw [e1] at c1
  have HX := hide hx
  have HF := hide f
  have hg := bs_lt f.obj
  have fz := fun j => bs_frozen f.obj j
  obtain ⟨n, hn⟩ : ∃ n, n = ps.length := ⟨_, rfl⟩
  rw [← hn] at c1 hl
  have HN := hide hn
  have HOK := hide hok
  have hw1 : wrap64 (now + 1) = now + 1 := by unfold wrap64; omega
  clear f e1 hx hn hok
  obtain ⟨S00, hS⟩ : ∃ S0, S0 = W.heap.size := ⟨_, rfl⟩
  rw [← hS]
  rw [← hS] at hg
  have HS0 := hide hS
  clear hS
  go_enter Try.func21, Try.ntmps21
  go_wp2
  go_loopw [4] (fun v4 wr => ∃ i : Nat, i ≤ n ∧ v4 = .int .i64 (i : Int) ∧ Below S00 W wr) (fun v4 _ => n - (intOf v4).toNat)
  case atStart => exact ⟨0, Nat.zero_le _, rfl, by rw [HS0.out]; exact be_refl _⟩
  case round =>
    obtain ⟨i, hi9, rfl, hB⟩ := hrel
    have BE := hide hB
    have y0 : wr.cell? ⟨h, 0, none⟩ = _ := (hB.cell (p := ⟨h, 0, none⟩) hg).trans c0
    have y1 : wr.cell? ⟨h, 1, none⟩ = _ := (hB.cell (p := ⟨h, 1, none⟩) hg).trans c1
    have p0 : (0 : Int) ≤ (i : Int) := by omega
    have hw : wrap64 ((i : Int) + 1) = (i : Int) + 1 := by unfold wrap64; omega
    by_cases hlt : i < n
    · have p1 : ((i : Int) < (n : Int)) = True := eq_true (by omega)
      have p1' : (i : Int) < (n : Int) := by omega
      obtain ⟨z, hz⟩ : ∃ z, ps[i]? = some z := ⟨_, List.getElem?_eq_getElem (by have := HN.out; omega)⟩
      obtain ⟨b, rfl, hb, x0⟩ := HX.out i z hz
      have y2 : wr.cell? ⟨b, i, none⟩ = _ := (hB.cell (p := ⟨b, i, none⟩) (by rw [HS0.out]; exact hb)).trans x0
      have hbad := HOK.out z (List.mem_of_getElem? hz)
      clear hB c0 c1 x0 hb hz fz
      by_cases h1 : 0 ≤ z
      · have q1 : (0 ≤ z) = True := eq_true h1
        have q2 : (z < now) = False := eq_false (fun e => hbad ⟨h1, e⟩)
        clear hbad h1
        go_upto_region 4 with fail
        go_quiet (fail)
        go_wp2
        refine ⟨⟨i + 1, by omega, by simp, by first | exact BE.out | exact be_drew BE.out | exact be_drewN BE.out | exact BE.out.drewN _⟩, ?_⟩
        simp only [intOf]; omega
      · have q1 : (0 ≤ z) = False := eq_false h1
        clear hbad h1
        go_upto_region 4 with fail
        go_quiet (fail)
        go_wp2
        refine ⟨⟨i + 1, by omega, by simp, by first | exact BE.out | exact be_drew BE.out | exact be_drewN BE.out | exact BE.out.drewN _⟩, ?_⟩
        simp only [intOf]; omega
    · have p1 : ((i : Int) < (n : Int)) = False := eq_false (by omega)
      have fz0 : wr.frozen? ⟨h, 0, none⟩ = false := (hB.frozen (p := ⟨h, 0, none⟩) hg).trans (fz 0)
      clear hB c0 c1 fz
      go_upto_region 7 with fail
      have FB := hide (HF.out.below_then (by rw [← HS0.out]; exact BE.out))
      refine wp_letter (fun W1 => Rf w W1 h q r s qc rc sc (now + 1) ps (xs.map (·.1)) (xs.map (·.2)) ∧ Fq h W q r s W1 q r s) ⟨Rf.set_now FB.out (now + 1), ?hf⟩ ?_
      case hf =>
        have hBW : Below W.heap.size W wr := by rw [← HS0.out]; exact BE.out
        exact Fq.trans (Fq.of_below hBW) (Fq.now _)
      rintro W1 ⟨h1, F1⟩
      have HS := hide (show S00 ≤ W1.heap.size by rw [HS0.out]; exact F1.size)
      have FW := hide F1
      clear F1 fz0 y0 y1 FB BE HF HX HOK hlt hi9 p1 p0 hw
      have HF := hide h1
      obtain ⟨_, _, cL, cT⟩ := h1.c
      obtain ⟨oL, eL, hxL⟩ := oa_of h1.l
      obtain ⟨oT, eT, hxT⟩ := oa_of h1.when
      rw [eL] at cL
      rw [eT] at cT
      rw [List.length_map] at cL cT
      have XL := hide (show ∀ (i : Nat) (x : Int × Int), xs[i]? = some x → ∃ b, oL = some ⟨b, 0, none⟩ ∧ b < W1.heap.size ∧ W1.cell? ⟨b, i, none⟩ = some (.int .i64 x.1) from fun i x hx => hxL i x.1 (by rw [List.getElem?_map, hx]; rfl))
      have XT := hide (show ∀ (i : Nat) (x : Int × Int), xs[i]? = some x → ∃ b, oT = some ⟨b, 0, none⟩ ∧ b < W1.heap.size ∧ W1.cell? ⟨b, i, none⟩ = some (.int .i64 x.2) from fun i x hx => hxT i x.2 (by rw [List.getElem?_map, hx]; rfl))
      have HG := hide (show h < W1.heap.size from bs_lt h1.obj)
      clear eL eT hxL hxT h1
      generalize hLn : xs.length = m at *
      obtain ⟨S0, hS0⟩ : ∃ S0, S0 = W1.heap.size := ⟨_, rfl⟩
      rw [← hS0] at XL XT HG HS
      have HZ := hide hS0
      have HLN := hide hLn
      clear hS0 hLn
      obtain ⟨i0, hi, hz0, hz1, hz2⟩ := info_parts intInfo
      have cN : W1.cell? ⟨h, 0, none⟩ = some (.int .i64 (now + 1)) := HF.out.c.1
      go_wp2
      go_loopw [5, 6, 7, 8] (fun v5 v6 v7 v8 wr => ∃ i : Nat, ∃ o1 c1 o2 c2 o3 c3, i ≤ m ∧ v5 = sl o1 (out now (xs.take i)).length c1 ∧ v6 = sl o2 (rest now (xs.take i)).length c2 ∧ v7 = sl o3 (rest now (xs.take i)).length c3 ∧ v8 = .int .i64 (i : Int)
        ∧ Own wr S0 3 1 o1 (out now (xs.take i)).length c1 (intsOf (out now (xs.take i))) ∧ Own wr S0 3 1 o2 (rest now (xs.take i)).length c2 (intsOf ((rest now (xs.take i)).map (·.1))) ∧ Own wr S0 3 1 o3 (rest now (xs.take i)).length c3 (intsOf ((rest now (xs.take i)).map (·.2)))
        ∧ (∀ b, o1 = some b → o2 ≠ some b) ∧ (∀ b, o1 = some b → o3 ≠ some b) ∧ (∀ b, o2 = some b → o3 ≠ some b) ∧ Below S0 W1 wr) (fun _ _ _ v8 _ => m - (intOf v8).toNat)
      case atStart =>
        exact ⟨0, none, 0, none, 0, none, 0, Nat.zero_le _, rfl, rfl, rfl, rfl, Own.nil _ _ _ _, Own.nil _ _ _ _, Own.nil _ _ _ _, (fun b e => by cases e), (fun b e => by cases e), (fun b e => by cases e), by rw [HZ.out]; exact be_refl _⟩
      case round =>
        obtain ⟨i, o1, c1, o2, c2, o3, c3, hi9, rfl, rfl, rfl, rfl, hO1, hO2, hO3, d12, d13, d23, hB⟩ := hrel
        have D12 := hide d12
        have D13 := hide d13
        have D23 := hide d23
        have O1 := hide hO1
        have O2 := hide hO2
        have O3 := hide hO3
        have B1 := hide hB
        have LO := hide (out_le now xs i)
        have LR := hide (rest_le now xs i)
        clear d12 d13 d23
        have y2 : wr.cell? ⟨h, 2, none⟩ = _ := (hB.cell (p := ⟨h, 2, none⟩) HG.out).trans cL
        by_cases hlt : i < m
        · have p1 : ((i : Int) < (m : Int)) = True := eq_true (by omega)
          have p1' : (i : Int) < (m : Int) := by omega
          have p0 : (0 : Int) ≤ (i : Int) := by omega
          obtain ⟨⟨x1, x2⟩, hx⟩ : ∃ x, xs[i]? = some x := ⟨_, List.getElem?_eq_getElem (by have := HLN.out; omega)⟩
          obtain ⟨b1, rfl, hb1, zL⟩ := XL.out i (x1, x2) hx
          obtain ⟨b2, rfl, hb2, zT⟩ := XT.out i (x1, x2) hx
          have SO := hide (fun h => step_out (now := now) hx h)
          have SR := hide (fun h => step_rest (now := now) hx h)
          have y0 : wr.cell? ⟨h, 0, none⟩ = _ := (hB.cell (p := ⟨h, 0, none⟩) HG.out).trans cN
          have y3 : wr.cell? ⟨h, 3, none⟩ = _ := (hB.cell (p := ⟨h, 3, none⟩) HG.out).trans cT
          have HB1 := hide (show b1 < S0 from hb1)
          have HB2 := hide (show b2 < S0 from hb2)
          have yT : wr.cell? ⟨b2, i, none⟩ = _ := (hB.cell (p := ⟨b2, i, none⟩) HB2.out).trans zT
          have hw : wrap64 ((i : Int) + 1) = (i : Int) + 1 := by unfold wrap64; omega
          have hw2 : IntKind.i64.wrap (now + 1 - 2) = now - 1 := by rw [IntKind.wrap_i64]; omega
          have hw3 : wrap64 (now + 1 - 2) = now - 1 := by unfold wrap64; omega
          dsimp only at zL zT yT
          clear hO1 hO2 hO3 hB hb1 hb2 hx
          generalize hu : out now (xs.take i) = us at *
          generalize hy : rest now (xs.take i) = ys at *
          by_cases ho : x2 ≤ now - 1
          · have q1 : (x2 ≤ now - 1) = True := eq_true ho
            have E := hide (SO.out ho)
            clear SO SR ho
            go_upto_region 11 with fail
            go_quiet (fail)
            go_upto_region 12 with fail
            refine wp_letter (fun M => Own M S0 3 1 o1 us.length c1 (intsOf us) ∧ Own M S0 3 1 o2 ys.length c2 (intsOf (ys.map (·.1))) ∧ Own M S0 3 1 o3 ys.length c3 (intsOf (ys.map (·.2))) ∧ Below S0 W1 M) ⟨O1.out.below (be_drewN (be_refl _)), O2.out.below (be_drewN (be_refl _)), O3.out.below (be_drewN (be_refl _)), be_drewN B1.out⟩ ?_
            rintro M ⟨hO1, hO2, hO3, hB⟩
            have OM := hide hO1
            have RL0 := hide hO2
            have RT0 := hide hO3
            have BM := hide hB
            have SM := hide (show S0 ≤ M.heap.size by have := hB.size; rw [← HZ.out] at this; exact this)
            have k2 : M.cell? ⟨h, 2, none⟩ = _ := (hB.cell (p := ⟨h, 2, none⟩) HG.out).trans cL
            have kL : M.cell? ⟨b1, i, none⟩ = _ := (hB.cell (p := ⟨b1, i, none⟩) HB1.out).trans zL
            have HAA : Hid (∀ o, (M.alloc o).ownsRow S0 3 1 (sl o1 us.length c1) us.length (intsOf us)) := fun o => (hO1.below (be_alloc (be_refl _) (Nat.le_refl _))).owns
            have lo := LO.out
            have lr := LR.out
            clear hO1 hO2 hO3 hB y0 y2 y3 yT
            go_wp2_with (at_builtin; refine wpList_append_lies _ rfl (.tmp 69) (.tmp 77) 22 rfl S0 3 i0 _ 1 8 Try.underlying22 hi hz0 hz1 hz2 rfl (by omega) (sl o1 us.length c1) us.length _ rfl (HAA.out _) ⟨M.heap.size, 0, none⟩ 1 1 [.int .i64 x1] rfl rfl (World.news_of_block (cs := #[.int .i64 x1]) (t := 3) (fr := (0, 0)) (heap_alloc_new M _)) (by simp [Value.oneCell']) (by omega) (by unfold maxLen; omega) (by omega) (by have := SM.out; simp; omega) (M.heap.size + 1) (by simp) ?_; intro gg cap1 w1 hown1 hgrow hat hlt1)
            rw [sl_block] at hgrow hat
            refine ⟨⟨i + 1, some gg, cap1, o2, c2, o3, c3, by omega, by rw [E.out.1, List.length_append]; rfl, by rw [E.out.2], by rw [E.out.2], by simp, by rw [E.out.1, List.length_append, ints_append]; exact ⟨hown1⟩, ?_, ?_, ?_, ?_, by exact D23.out, ?_⟩, by simp only [intOf]; omega⟩
            · rw [E.out.2]
              exact Own.grown (RL0.out.below (be_alloc (be_refl _) (Nat.le_refl _))) hgrow (fun b hb e => D12.out b e.symm hb)
            · rw [E.out.2]
              exact Own.grown (RT0.out.below (be_alloc (be_refl _) (Nat.le_refl _))) hgrow (fun b hb e => D13.out b e.symm hb)
            · intro b e e2
              cases e
              rcases hat with h3 | h3
              · exact D12.out _ h3 e2
              · have := (own_ge RL0.out _ e2).2; omega
            · intro b e e2
              cases e
              rcases hat with h3 | h3
              · exact D13.out _ h3 e2
              · have := (own_ge RT0.out _ e2).2; omega
            · exact below_grown (be_alloc BM.out SM.out) (by have := SM.out; simp; omega) hgrow (fun b hb => (own_ge OM.out b hb).1)
          · have q1 : (x2 ≤ now - 1) = False := eq_false ho
            have E := hide (SR.out ho)
            clear SO SR ho
            go_upto_region 11 with fail
            go_quiet (fail)
            go_upto_region 13 with fail
            refine wp_letter (fun M => Own M S0 3 1 o1 us.length c1 (intsOf us) ∧ Own M S0 3 1 o2 ys.length c2 (intsOf (ys.map (·.1))) ∧ Own M S0 3 1 o3 ys.length c3 (intsOf (ys.map (·.2))) ∧ Below S0 W1 M) ⟨O1.out.below (be_drewN (be_refl _)), O2.out.below (be_drewN (be_refl _)), O3.out.below (be_drewN (be_refl _)), be_drewN B1.out⟩ ?_
            rintro M ⟨hO1, hO2, hO3, hB⟩
            have SM := hide (show S0 ≤ M.heap.size by have := hB.size; rw [← HZ.out] at this; exact this)
            have OM := hide hO1
            obtain ⟨vl, hvl⟩ : ∃ v, v = sl o2 ys.length c2 := ⟨_, rfl⟩
            obtain ⟨vt, hvt⟩ : ∃ v, v = sl o3 ys.length c3 := ⟨_, rfl⟩
            have b1' : vl.ownBlock = o2 := by rw [hvl]; exact sl_block _ _ _
            have b2' : vt.ownBlock = o3 := by rw [hvt]; exact sl_block _ _ _
            have HL := hide hO2.owns
            have HT := hide hO3.owns
            rw [← hvl] at HL
            rw [← hvt] at HT
            rw [← hvl, ← hvt]
            have B12 := hide (And.intro b1' b2')
            have NTL := hide (show vt.ownBlock ≠ vl.ownBlock ∨ vt.ownBlock = none from by
              rw [b1', b2']
              cases hr : o3 with
              | none => exact .inr rfl
              | some b => exact .inl (fun e => D23.out b e.symm hr))
            have NLT := hide (show vl.ownBlock ≠ vt.ownBlock ∨ vl.ownBlock = none from by
              rw [b1', b2']
              cases hr : o2 with
              | none => exact .inr rfl
              | some b => exact .inl (fun e => D23.out b hr e.symm))
            have FL := hide (show ∀ b, vl.ownBlock = some b → b < M.heap.size from fun b e => (own_ge hO2 b (by rw [← b1', e])).2)
            have FT := hide (show ∀ b, vt.ownBlock = some b → b < M.heap.size from fun b e => (own_ge hO3 b (by rw [← b2', e])).2)
            have JN := jq_none (W1 := W1) (o1 := o1) (c1 := c1) (us := us) SM.out
            have JL := jq_row (W1 := W1) (o1 := o1) (c1 := c1) (us := us) (row := vl.ownBlock) SM.out (fun b e => (own_ge hO2 b (by rw [← b1', e])).1) (fun b e e2 => D12.out b e (by rw [← b1', e2]))
            have JT := jq_row (W1 := W1) (o1 := o1) (c1 := c1) (us := us) (row := vt.ownBlock) SM.out (fun b e => (own_ge hO3 b (by rw [← b2', e])).1) (fun b e e2 => D13.out b e (by rw [← b2', e2]))
            have JS := jq_size (S0 := S0) (W1 := W1) (o1 := o1) (c1 := c1) (us := us) (M := M)
            have lr := LR.out
            have sm := SM.out
            have JM := hide (show JQ S0 W1 o1 c1 us M M.drew from ⟨be_drew hB, hO1.below (be_drew (be_refl _)), Nat.le_refl _⟩)
            clear hO1 hO2 hO3 hB y0 y2 y3 yT hvl hvt b1' b2' O1 O2 O3
            refine wp_region_split_ex (n := 20) (ex := 0) (vx := vl) (by kernel_rfl) (by kernel_rfl) (by omega) rfl (by kernel_rfl) (by kernel_rfl) (by kernel_rfl) (fun _ _ _ h => h) (Or.inl ⟨by rfl, fun w5 => by go_simp⟩) ?_
            simp only [List.take_succ_cons, List.take_zero, List.drop_succ_cons, List.drop_zero, Act.put, List.setIfInBounds_toArray, List.set_cons_zero, List.set_cons_succ]
            refine wpAny_of_held (S := JQ S0 W1 o1 c1 us M) _ _ _ _ ?_
            refine letter_ (fun w3 => JQ S0 W1 o1 c1 us M w3 ∧ w3.ownsRow S0 3 1 vl ys.length (intsOf (ys.map (·.1))) ∧ w3.ownsRow S0 3 1 vt ys.length (intsOf (ys.map (·.2)))) ⟨JM.out, World.ownsRow.drew HL.out, World.ownsRow.drew HT.out⟩ ?_
            rintro w0 ⟨hj0, hl0, ht0⟩
            have JC0 := hide hj0
            have RL0 := hide hl0
            have RT0 := hide ht0
            clear hj0 hl0 ht0 HL HT
            refine take_ (i := 1) (v := ?_) rfl (by kernel_rfl) (by kernel_rfl) (by kernel_rfl) (fun _ _ _ h => h) (Or.inl ⟨by rfl, ?_⟩) JC0.out ?_
            rotate_left
            · (intro w5 hSw; have hB := hSw.1; have k2 := (hB.cell (p := ⟨h, 2, none⟩) HG.out).trans cL; have k3 := (hB.cell (p := ⟨h, 3, none⟩) HG.out).trans cT; have k4 := (hB.cell (p := ⟨b1, i, none⟩) HB1.out).trans zL; have k5 := (hB.cell (p := ⟨b2, i, none⟩) HB2.out).trans zT; go_simp; try (with_reducible rfl))
            try simp only [Act.put, List.setIfInBounds_toArray, List.set_cons_zero, List.set_cons_succ]
            refine take_ (i := 2) (v := ?_) rfl (by kernel_rfl) (by kernel_rfl) (by kernel_rfl) (fun _ _ _ h => h) (Or.inl ⟨by rfl, ?_⟩) JC0.out ?_
            rotate_left
            · (intro w5 hSw; have hB := hSw.1; have k2 := (hB.cell (p := ⟨h, 2, none⟩) HG.out).trans cL; have k3 := (hB.cell (p := ⟨h, 3, none⟩) HG.out).trans cT; have k4 := (hB.cell (p := ⟨b1, i, none⟩) HB1.out).trans zL; have k5 := (hB.cell (p := ⟨b2, i, none⟩) HB2.out).trans zT; go_simp; try (with_reducible rfl))
            try simp only [Act.put, List.setIfInBounds_toArray, List.set_cons_zero, List.set_cons_succ]
            refine take_ (i := 3) (v := ?_) rfl (by kernel_rfl) (by kernel_rfl) (by kernel_rfl) (fun _ _ _ h => h) (Or.inl ⟨by rfl, ?_⟩) JC0.out ?_
            rotate_left
            · (intro w5 hSw; have hB := hSw.1; have k2 := (hB.cell (p := ⟨h, 2, none⟩) HG.out).trans cL; have k3 := (hB.cell (p := ⟨h, 3, none⟩) HG.out).trans cT; have k4 := (hB.cell (p := ⟨b1, i, none⟩) HB1.out).trans zL; have k5 := (hB.cell (p := ⟨b2, i, none⟩) HB2.out).trans zT; go_simp; try (with_reducible rfl))
            try simp only [Act.put, List.setIfInBounds_toArray, List.set_cons_zero, List.set_cons_succ]
            refine take_ (i := 4) (v := ?_) rfl (by kernel_rfl) (by kernel_rfl) (by kernel_rfl) (fun _ _ _ h => h) (Or.inl ⟨by rfl, ?_⟩) JC0.out ?_
            rotate_left
            · (intro w5 hSw; have hB := hSw.1; have k2 := (hB.cell (p := ⟨h, 2, none⟩) HG.out).trans cL; have k3 := (hB.cell (p := ⟨h, 3, none⟩) HG.out).trans cT; have k4 := (hB.cell (p := ⟨b1, i, none⟩) HB1.out).trans zL; have k5 := (hB.cell (p := ⟨b2, i, none⟩) HB2.out).trans zT; go_simp; try (with_reducible rfl))
            try simp only [Act.put, List.setIfInBounds_toArray, List.set_cons_zero, List.set_cons_succ]
            refine take_ (i := 5) (v := ?_) rfl (by kernel_rfl) (by kernel_rfl) (by kernel_rfl) (fun _ _ _ h => h) (Or.inl ⟨by rfl, ?_⟩) JC0.out ?_
            rotate_left
            · (intro w5 hSw; have hB := hSw.1; have k2 := (hB.cell (p := ⟨h, 2, none⟩) HG.out).trans cL; have k3 := (hB.cell (p := ⟨h, 3, none⟩) HG.out).trans cT; have k4 := (hB.cell (p := ⟨b1, i, none⟩) HB1.out).trans zL; have k5 := (hB.cell (p := ⟨b2, i, none⟩) HB2.out).trans zT; go_simp; try (with_reducible rfl))
            try simp only [Act.put, List.setIfInBounds_toArray, List.set_cons_zero, List.set_cons_succ]
            refine take_ (i := 6) (v := ?_) rfl (by kernel_rfl) (by kernel_rfl) (by kernel_rfl) (fun _ _ _ h => h) (Or.inl ⟨by rfl, ?_⟩) JC0.out ?_
            rotate_left
            · (intro w5 hSw; have hB := hSw.1; have k2 := (hB.cell (p := ⟨h, 2, none⟩) HG.out).trans cL; have k3 := (hB.cell (p := ⟨h, 3, none⟩) HG.out).trans cT; have k4 := (hB.cell (p := ⟨b1, i, none⟩) HB1.out).trans zL; have k5 := (hB.cell (p := ⟨b2, i, none⟩) HB2.out).trans zT; go_simp; try (with_reducible rfl))
            try simp only [Act.put, List.setIfInBounds_toArray, List.set_cons_zero, List.set_cons_succ]
            refine take_ (i := 7) (v := ?_) rfl (by kernel_rfl) (by kernel_rfl) (by kernel_rfl) (fun _ _ _ h => h) (Or.inl ⟨by rfl, ?_⟩) JC0.out ?_
            rotate_left
            · (intro w5 hSw; have hB := hSw.1; have k2 := (hB.cell (p := ⟨h, 2, none⟩) HG.out).trans cL; have k3 := (hB.cell (p := ⟨h, 3, none⟩) HG.out).trans cT; have k4 := (hB.cell (p := ⟨b1, i, none⟩) HB1.out).trans zL; have k5 := (hB.cell (p := ⟨b2, i, none⟩) HB2.out).trans zT; go_simp; try (with_reducible rfl))
            try simp only [Act.put, List.setIfInBounds_toArray, List.set_cons_zero, List.set_cons_succ]
            refine take_ (i := 10) (v := ?_) rfl (by kernel_rfl) (by kernel_rfl) (by kernel_rfl) (fun _ _ _ h => h) (Or.inl ⟨by rfl, ?_⟩) JC0.out ?_
            rotate_left
            · (intro w5 hSw; have hB := hSw.1; have k2 := (hB.cell (p := ⟨h, 2, none⟩) HG.out).trans cL; have k3 := (hB.cell (p := ⟨h, 3, none⟩) HG.out).trans cT; have k4 := (hB.cell (p := ⟨b1, i, none⟩) HB1.out).trans zL; have k5 := (hB.cell (p := ⟨b2, i, none⟩) HB2.out).trans zT; go_simp; try (with_reducible rfl))
            try simp only [Act.put, List.setIfInBounds_toArray, List.set_cons_zero, List.set_cons_succ]
            refine take_ (i := 11) (v := ?_) rfl (by kernel_rfl) (by kernel_rfl) (by kernel_rfl) (fun _ _ _ h => h) (Or.inl ⟨by rfl, ?_⟩) JC0.out ?_
            rotate_left
            · (intro w5 hSw; have hB := hSw.1; have k2 := (hB.cell (p := ⟨h, 2, none⟩) HG.out).trans cL; have k3 := (hB.cell (p := ⟨h, 3, none⟩) HG.out).trans cT; have k4 := (hB.cell (p := ⟨b1, i, none⟩) HB1.out).trans zL; have k5 := (hB.cell (p := ⟨b2, i, none⟩) HB2.out).trans zT; go_simp; try (with_reducible rfl))
            try simp only [Act.put, List.setIfInBounds_toArray, List.set_cons_zero, List.set_cons_succ]
            refine take_ (i := 12) (v := ?_) rfl (by kernel_rfl) (by kernel_rfl) (by kernel_rfl) (fun _ _ _ h => h) (Or.inl ⟨by rfl, ?_⟩) JC0.out ?_
            rotate_left
            · (intro w5 hSw; have hB := hSw.1; have k2 := (hB.cell (p := ⟨h, 2, none⟩) HG.out).trans cL; have k3 := (hB.cell (p := ⟨h, 3, none⟩) HG.out).trans cT; have k4 := (hB.cell (p := ⟨b1, i, none⟩) HB1.out).trans zL; have k5 := (hB.cell (p := ⟨b2, i, none⟩) HB2.out).trans zT; go_simp; try (with_reducible rfl))
            try simp only [Act.put, List.setIfInBounds_toArray, List.set_cons_zero, List.set_cons_succ]
            refine take_ (i := 13) (v := ?_) rfl (by kernel_rfl) (by kernel_rfl) (by kernel_rfl) (fun _ _ _ h => h) (Or.inl ⟨by rfl, ?_⟩) JC0.out ?_
            rotate_left
            · (intro w5 hSw; have hB := hSw.1; have k2 := (hB.cell (p := ⟨h, 2, none⟩) HG.out).trans cL; have k3 := (hB.cell (p := ⟨h, 3, none⟩) HG.out).trans cT; have k4 := (hB.cell (p := ⟨b1, i, none⟩) HB1.out).trans zL; have k5 := (hB.cell (p := ⟨b2, i, none⟩) HB2.out).trans zT; go_simp; try (with_reducible rfl))
            try simp only [Act.put, List.setIfInBounds_toArray, List.set_cons_zero, List.set_cons_succ]
            refine take_ (i := 14) (v := ?_) rfl (by kernel_rfl) (by kernel_rfl) (by kernel_rfl) (fun _ _ _ h => h) (Or.inl ⟨by rfl, ?_⟩) JC0.out ?_
            rotate_left
            · (intro w5 hSw; have hB := hSw.1; have k2 := (hB.cell (p := ⟨h, 2, none⟩) HG.out).trans cL; have k3 := (hB.cell (p := ⟨h, 3, none⟩) HG.out).trans cT; have k4 := (hB.cell (p := ⟨b1, i, none⟩) HB1.out).trans zL; have k5 := (hB.cell (p := ⟨b2, i, none⟩) HB2.out).trans zT; go_simp; try (with_reducible rfl))
            try simp only [Act.put, List.setIfInBounds_toArray, List.set_cons_zero, List.set_cons_succ]
            refine take_ (i := 15) (v := ?_) rfl (by kernel_rfl) (by kernel_rfl) (by kernel_rfl) (fun _ _ _ h => h) (Or.inl ⟨by rfl, ?_⟩) JC0.out ?_
            rotate_left
            · (intro w5 hSw; have hB := hSw.1; have k2 := (hB.cell (p := ⟨h, 2, none⟩) HG.out).trans cL; have k3 := (hB.cell (p := ⟨h, 3, none⟩) HG.out).trans cT; have k4 := (hB.cell (p := ⟨b1, i, none⟩) HB1.out).trans zL; have k5 := (hB.cell (p := ⟨b2, i, none⟩) HB2.out).trans zT; go_simp; try (with_reducible rfl))
            try simp only [Act.put, List.setIfInBounds_toArray, List.set_cons_zero, List.set_cons_succ]
            refine take_ (i := 16) (v := ?_) rfl (by kernel_rfl) (by kernel_rfl) (by kernel_rfl) (fun _ _ _ h => h) (Or.inl ⟨by rfl, ?_⟩) JC0.out ?_
            rotate_left
            · (intro w5 hSw; have hB := hSw.1; have k2 := (hB.cell (p := ⟨h, 2, none⟩) HG.out).trans cL; have k3 := (hB.cell (p := ⟨h, 3, none⟩) HG.out).trans cT; have k4 := (hB.cell (p := ⟨b1, i, none⟩) HB1.out).trans zL; have k5 := (hB.cell (p := ⟨b2, i, none⟩) HB2.out).trans zT; go_simp; try (with_reducible rfl))
            try simp only [Act.put, List.setIfInBounds_toArray, List.set_cons_zero, List.set_cons_succ]
            refine take_ (i := 17) (v := ?_) rfl (by kernel_rfl) (by kernel_rfl) (by kernel_rfl) (fun _ _ _ h => h) (Or.inl ⟨by rfl, ?_⟩) JC0.out ?_
            rotate_left
            · (intro w5 hSw; have hB := hSw.1; have k2 := (hB.cell (p := ⟨h, 2, none⟩) HG.out).trans cL; have k3 := (hB.cell (p := ⟨h, 3, none⟩) HG.out).trans cT; have k4 := (hB.cell (p := ⟨b1, i, none⟩) HB1.out).trans zL; have k5 := (hB.cell (p := ⟨b2, i, none⟩) HB2.out).trans zT; go_simp; try (with_reducible rfl))
            try simp only [Act.put, List.setIfInBounds_toArray, List.set_cons_zero, List.set_cons_succ]
            refine wpAnyH_ready (rs := [8, 18]) (by kernel_rfl) (by simp) ?_
            refine cons_ rfl (fun K hK => ?_) ?_
            · go_simp
              refine hK.out _ _ (JN _ _ JC0.out (World.grownBy_alloc _ _ none)) (fun _ => ?_)
              try simp only [Act.put, List.setIfInBounds_toArray, List.set_cons_zero, List.set_cons_succ]
              refine letter_ (fun w3 => w0.grownBy w3 none ∧ w3.heap[w0.heap.size]? = some (.cells #[.int .i64 x1] 3 (0, 0))) ⟨World.grownBy_alloc _ _ none, bs_new rfl⟩ ?_
              rintro u1 ⟨hg1, hb1⟩
              have hq1 := JS _ JC0.out; have hqq1 := hg1.size
              have JC1 := hide (JN _ _ JC0.out hg1)
              have RL1 := hide (or_grown RL0.out hg1 (none_ne _))
              have RT1 := hide (or_grown RT0.out hg1 (none_ne _))
              have BL1 := hide hb1
              generalize w0.heap.size = blL at *
              clear hg1 hb1
              refine wpAnyH_ready (rs := [9, 18]) (by kernel_rfl) (by simp) ?_
              refine cons_ rfl (fun K hK => ?_) ?_
              · refine step_append_lies _ (by rfl) (.tmp 79) (.tmp 87) _ (by rfl) S0 3 i0 _ 1 8 Try.underlying22 hi hz0 hz1 hz2 rfl (by omega) vl ys.length (intsOf (ys.map (·.1))) (by rfl) RL1.out _ 1 1 [.int .i64 x1] (by rfl) (by rfl) (World.news_of_block (cs := #[.int .i64 x1]) (t := 3) (fr := (0, 0)) BL1.out) (by simp [Value.oneCell']) (by omega) (by unfold maxLen; omega) (by omega) (by have := JS _ JC1.out; omega) _ rfl ?_
                intro gL capL u2 hown2 hgr2 hat2 hlt2
                refine hK.out _ _ (JL _ _ JC1.out hgr2) (fun _ => ?_)
                try simp only [Act.put, List.setIfInBounds_toArray, List.set_cons_zero, List.set_cons_succ]
                have hq2 := JS _ JC1.out; have hqq2 := hgr2.size
                have JC2 := hide (JL _ _ JC1.out hgr2)
                have RL2 := hide hown2
                have RT2 := hide (or_grown RT1.out hgr2 NTL.out)
                have LIL := hide (show vl.ownBlock = some gL ∨ M.heap.size ≤ gL from hat2.elim .inl (fun e => .inr (by omega)))
                clear hgr2 hown2 hat2
                refine wpAnyH_ready (rs := [18]) (by kernel_rfl) (by simp) ?_
                refine cons_ rfl (fun K hK => ?_) ?_
                · go_simp
                  refine hK.out _ _ (JN _ _ JC2.out (World.grownBy_alloc _ _ none)) (fun _ => ?_)
                  try simp only [Act.put, List.setIfInBounds_toArray, List.set_cons_zero, List.set_cons_succ]
                  refine letter_ (fun w3 => u2.grownBy w3 none ∧ w3.heap[u2.heap.size]? = some (.cells #[.int .i64 x2] 3 (0, 0))) ⟨World.grownBy_alloc _ _ none, bs_new rfl⟩ ?_
                  rintro u3 ⟨hg3, hb3⟩
                  have hq3 := JS _ JC2.out; have hqq3 := hg3.size
                  have JC3 := hide (JN _ _ JC2.out hg3)
                  have RL3 := hide (or_grown RL2.out hg3 (none_ne _))
                  have RT3 := hide (or_grown RT2.out hg3 (none_ne _))
                  have BT3 := hide hb3
                  generalize u2.heap.size = blT at *
                  clear hg3 hb3
                  refine wpAnyH_ready (rs := [19]) (by kernel_rfl) (by simp) ?_
                  refine cons_ rfl (fun K hK => ?_) ?_
                  · refine step_append_lies _ (by rfl) (.tmp 89) (.tmp 97) _ (by rfl) S0 3 i0 _ 1 8 Try.underlying22 hi hz0 hz1 hz2 rfl (by omega) vt ys.length (intsOf (ys.map (·.2))) (by rfl) RT3.out _ 1 1 [.int .i64 x2] (by rfl) (by rfl) (World.news_of_block (cs := #[.int .i64 x2]) (t := 3) (fr := (0, 0)) BT3.out) (by simp [Value.oneCell']) (by omega) (by unfold maxLen; omega) (by omega) (by have := JS _ JC3.out; omega) _ rfl ?_
                    intro gT capT u4 hown4 hgr4 hat4 hlt4
                    refine hK.out _ _ (JT _ _ JC3.out hgr4) (fun _ => ?_)
                    try simp only [Act.put, List.setIfInBounds_toArray, List.set_cons_zero, List.set_cons_succ]
                    have hq4 := JS _ JC3.out; have hqq4 := hgr4.size
                    have JC4 := hide (JT _ _ JC3.out hgr4)
                    have RT4 := hide hown4
                    have RL4 := hide (or_grown RL3.out hgr4 (.inl (ne_new (fun e => LIL.out.elim (fun e2 => NLT.out.elim (fun e3 => e3 (by rw [e2, e])) (fun e3 => by rw [e3] at e2; cases e2)) (fun e2 => by have := FT.out _ e; omega)))))
                    have LIT := hide (show vt.ownBlock = some gT ∨ M.heap.size ≤ gT from hat4.elim .inl (fun e => .inr (by omega)))
                    have NE := hide (show gT ≠ gL from fun e => hat4.elim (fun e1 => LIL.out.elim (fun e2 => NLT.out.elim (fun e3 => e3 (by rw [e2, e1, e])) (fun e3 => by rw [e3] at e2; cases e2)) (fun e2 => by have := FT.out _ e1; omega)) (fun e1 => by omega))
                    clear hgr4 hown4 hat4
                    refine wpAnyH_done (by kernel_rfl) ?_ _
                    obtain ⟨hB, hO, hZ⟩ := JC4.out
                    have BB := hide hB
                    have OO := hide hO
                    clear hB hO hZ
                    dsimp only [TailPost]
                    go_wp2
                    refine ⟨⟨i + 1, o1, c1, some gL, capL, some gT, capT, by omega, by rw [E.out.1], by rw [E.out.2, List.length_append]; rfl, by rw [E.out.2, List.length_append]; rfl, by simp, by rw [E.out.1]; exact OO.out, ?_, ?_, ?_, ?_, ?_, BB.out⟩, by simp only [intOf]; omega⟩
                    · rw [E.out.2, List.map_append, List.length_append, ints_append]
                      exact ⟨RL4.out⟩
                    · rw [E.out.2, List.map_append, List.length_append, ints_append]
                      exact ⟨RT4.out⟩
                    · intro b e e2
                      cases e2
                      rcases LIL.out with e3 | e3
                      · exact D12.out _ e (by rw [← B12.out.1]; exact e3)
                      · have := (own_ge OM.out _ e).2; omega
                    · intro b e e2
                      cases e2
                      rcases LIT.out with e3 | e3
                      · exact D13.out _ e (by rw [← B12.out.2]; exact e3)
                      · have := (own_ge OM.out _ e).2; omega
                    · intro b e e2
                      cases e; cases e2
                      exact NE.out rfl
                  exact nil_
                exact nil_
              refine cons_ rfl (fun K hK => ?_) ?_
              · go_simp
                refine hK.out _ _ (JN _ _ JC1.out (World.grownBy_alloc _ _ none)) (fun _ => ?_)
                try simp only [Act.put, List.setIfInBounds_toArray, List.set_cons_zero, List.set_cons_succ]
                refine letter_ (fun w3 => u1.grownBy w3 none ∧ w3.heap[u1.heap.size]? = some (.cells #[.int .i64 x2] 3 (0, 0))) ⟨World.grownBy_alloc _ _ none, bs_new rfl⟩ ?_
                rintro u2 ⟨hg2, hb2⟩
                have hq2 := JS _ JC1.out; have hqq2 := hg2.size
                have JC2 := hide (JN _ _ JC1.out hg2)
                have RL2 := hide (or_grown RL1.out hg2 (none_ne _))
                have BL2 := hide (bs_grown BL1.out hg2 (by simp))
                have RT2 := hide (or_grown RT1.out hg2 (none_ne _))
                have BT2 := hide hb2
                generalize u1.heap.size = blT at *
                clear hg2 hb2
                refine wpAnyH_ready (rs := [9]) (by kernel_rfl) (by simp) ?_
                refine cons_ rfl (fun K hK => ?_) ?_
                · refine step_append_lies _ (by rfl) (.tmp 79) (.tmp 87) _ (by rfl) S0 3 i0 _ 1 8 Try.underlying22 hi hz0 hz1 hz2 rfl (by omega) vl ys.length (intsOf (ys.map (·.1))) (by rfl) RL2.out _ 1 1 [.int .i64 x1] (by rfl) (by rfl) (World.news_of_block (cs := #[.int .i64 x1]) (t := 3) (fr := (0, 0)) BL2.out) (by simp [Value.oneCell']) (by omega) (by unfold maxLen; omega) (by omega) (by have := JS _ JC2.out; omega) _ rfl ?_
                  intro gL capL u3 hown3 hgr3 hat3 hlt3
                  refine hK.out _ _ (JL _ _ JC2.out hgr3) (fun _ => ?_)
                  try simp only [Act.put, List.setIfInBounds_toArray, List.set_cons_zero, List.set_cons_succ]
                  have hq3 := JS _ JC2.out; have hqq3 := hgr3.size
                  have JC3 := hide (JL _ _ JC2.out hgr3)
                  have RL3 := hide hown3
                  have RT3 := hide (or_grown RT2.out hgr3 NTL.out)
                  have BT3 := hide (bs_fresh BT2.out hgr3 FL.out (by omega))
                  have LIL := hide (show vl.ownBlock = some gL ∨ M.heap.size ≤ gL from hat3.elim .inl (fun e => .inr (by omega)))
                  clear hgr3 hown3 hat3
                  refine wpAnyH_ready (rs := [19]) (by kernel_rfl) (by simp) ?_
                  refine cons_ rfl (fun K hK => ?_) ?_
                  · refine step_append_lies _ (by rfl) (.tmp 89) (.tmp 97) _ (by rfl) S0 3 i0 _ 1 8 Try.underlying22 hi hz0 hz1 hz2 rfl (by omega) vt ys.length (intsOf (ys.map (·.2))) (by rfl) RT3.out _ 1 1 [.int .i64 x2] (by rfl) (by rfl) (World.news_of_block (cs := #[.int .i64 x2]) (t := 3) (fr := (0, 0)) BT3.out) (by simp [Value.oneCell']) (by omega) (by unfold maxLen; omega) (by omega) (by have := JS _ JC3.out; omega) _ rfl ?_
                    intro gT capT u4 hown4 hgr4 hat4 hlt4
                    refine hK.out _ _ (JT _ _ JC3.out hgr4) (fun _ => ?_)
                    try simp only [Act.put, List.setIfInBounds_toArray, List.set_cons_zero, List.set_cons_succ]
                    have hq4 := JS _ JC3.out; have hqq4 := hgr4.size
                    have JC4 := hide (JT _ _ JC3.out hgr4)
                    have RT4 := hide hown4
                    have RL4 := hide (or_grown RL3.out hgr4 (.inl (ne_new (fun e => LIL.out.elim (fun e2 => NLT.out.elim (fun e3 => e3 (by rw [e2, e])) (fun e3 => by rw [e3] at e2; cases e2)) (fun e2 => by have := FT.out _ e; omega)))))
                    have LIT := hide (show vt.ownBlock = some gT ∨ M.heap.size ≤ gT from hat4.elim .inl (fun e => .inr (by omega)))
                    have NE := hide (show gT ≠ gL from fun e => hat4.elim (fun e1 => LIL.out.elim (fun e2 => NLT.out.elim (fun e3 => e3 (by rw [e2, e1, e])) (fun e3 => by rw [e3] at e2; cases e2)) (fun e2 => by have := FT.out _ e1; omega)) (fun e1 => by omega))
                    clear hgr4 hown4 hat4
                    refine wpAnyH_done (by kernel_rfl) ?_ _
                    obtain ⟨hB, hO, hZ⟩ := JC4.out
                    have BB := hide hB
                    have OO := hide hO
                    clear hB hO hZ
                    dsimp only [TailPost]
                    go_wp2
                    refine ⟨⟨i + 1, o1, c1, some gL, capL, some gT, capT, by omega, by rw [E.out.1], by rw [E.out.2, List.length_append]; rfl, by rw [E.out.2, List.length_append]; rfl, by simp, by rw [E.out.1]; exact OO.out, ?_, ?_, ?_, ?_, ?_, BB.out⟩, by simp only [intOf]; omega⟩
                    · rw [E.out.2, List.map_append, List.length_append, ints_append]
                      exact ⟨RL4.out⟩
                    · rw [E.out.2, List.map_append, List.length_append, ints_append]
                      exact ⟨RT4.out⟩
                    · intro b e e2
                      cases e2
                      rcases LIL.out with e3 | e3
                      · exact D12.out _ e (by rw [← B12.out.1]; exact e3)
                      · have := (own_ge OM.out _ e).2; omega
                    · intro b e e2
                      cases e2
                      rcases LIT.out with e3 | e3
                      · exact D13.out _ e (by rw [← B12.out.2]; exact e3)
                      · have := (own_ge OM.out _ e).2; omega
                    · intro b e e2
                      cases e; cases e2
                      exact NE.out rfl
                  exact nil_
                exact nil_
              exact nil_
            refine cons_ rfl (fun K hK => ?_) ?_
            · go_simp
              refine hK.out _ _ (JN _ _ JC0.out (World.grownBy_alloc _ _ none)) (fun _ => ?_)
              try simp only [Act.put, List.setIfInBounds_toArray, List.set_cons_zero, List.set_cons_succ]
              refine letter_ (fun w3 => w0.grownBy w3 none ∧ w3.heap[w0.heap.size]? = some (.cells #[.int .i64 x2] 3 (0, 0))) ⟨World.grownBy_alloc _ _ none, bs_new rfl⟩ ?_
              rintro u1 ⟨hg1, hb1⟩
              have hq1 := JS _ JC0.out; have hqq1 := hg1.size
              have JC1 := hide (JN _ _ JC0.out hg1)
              have RL1 := hide (or_grown RL0.out hg1 (none_ne _))
              have RT1 := hide (or_grown RT0.out hg1 (none_ne _))
              have BT1 := hide hb1
              generalize w0.heap.size = blT at *
              clear hg1 hb1
              refine wpAnyH_ready (rs := [8]) (by kernel_rfl) (by simp) ?_
              refine cons_ rfl (fun K hK => ?_) ?_
              · go_simp
                refine hK.out _ _ (JN _ _ JC1.out (World.grownBy_alloc _ _ none)) (fun _ => ?_)
                try simp only [Act.put, List.setIfInBounds_toArray, List.set_cons_zero, List.set_cons_succ]
                refine letter_ (fun w3 => u1.grownBy w3 none ∧ w3.heap[u1.heap.size]? = some (.cells #[.int .i64 x1] 3 (0, 0))) ⟨World.grownBy_alloc _ _ none, bs_new rfl⟩ ?_
                rintro u2 ⟨hg2, hb2⟩
                have hq2 := JS _ JC1.out; have hqq2 := hg2.size
                have JC2 := hide (JN _ _ JC1.out hg2)
                have RL2 := hide (or_grown RL1.out hg2 (none_ne _))
                have RT2 := hide (or_grown RT1.out hg2 (none_ne _))
                have BT2 := hide (bs_grown BT1.out hg2 (by simp))
                have BL2 := hide hb2
                generalize u1.heap.size = blL at *
                clear hg2 hb2
                refine wpAnyH_ready (rs := [9]) (by kernel_rfl) (by simp) ?_
                refine cons_ rfl (fun K hK => ?_) ?_
                · refine step_append_lies _ (by rfl) (.tmp 79) (.tmp 87) _ (by rfl) S0 3 i0 _ 1 8 Try.underlying22 hi hz0 hz1 hz2 rfl (by omega) vl ys.length (intsOf (ys.map (·.1))) (by rfl) RL2.out _ 1 1 [.int .i64 x1] (by rfl) (by rfl) (World.news_of_block (cs := #[.int .i64 x1]) (t := 3) (fr := (0, 0)) BL2.out) (by simp [Value.oneCell']) (by omega) (by unfold maxLen; omega) (by omega) (by have := JS _ JC2.out; omega) _ rfl ?_
                  intro gL capL u3 hown3 hgr3 hat3 hlt3
                  refine hK.out _ _ (JL _ _ JC2.out hgr3) (fun _ => ?_)
                  try simp only [Act.put, List.setIfInBounds_toArray, List.set_cons_zero, List.set_cons_succ]
                  have hq3 := JS _ JC2.out; have hqq3 := hgr3.size
                  have JC3 := hide (JL _ _ JC2.out hgr3)
                  have RL3 := hide hown3
                  have RT3 := hide (or_grown RT2.out hgr3 NTL.out)
                  have BT3 := hide (bs_fresh BT2.out hgr3 FL.out (by omega))
                  have LIL := hide (show vl.ownBlock = some gL ∨ M.heap.size ≤ gL from hat3.elim .inl (fun e => .inr (by omega)))
                  clear hgr3 hown3 hat3
                  refine wpAnyH_ready (rs := [19]) (by kernel_rfl) (by simp) ?_
                  refine cons_ rfl (fun K hK => ?_) ?_
                  · refine step_append_lies _ (by rfl) (.tmp 89) (.tmp 97) _ (by rfl) S0 3 i0 _ 1 8 Try.underlying22 hi hz0 hz1 hz2 rfl (by omega) vt ys.length (intsOf (ys.map (·.2))) (by rfl) RT3.out _ 1 1 [.int .i64 x2] (by rfl) (by rfl) (World.news_of_block (cs := #[.int .i64 x2]) (t := 3) (fr := (0, 0)) BT3.out) (by simp [Value.oneCell']) (by omega) (by unfold maxLen; omega) (by omega) (by have := JS _ JC3.out; omega) _ rfl ?_
                    intro gT capT u4 hown4 hgr4 hat4 hlt4
                    refine hK.out _ _ (JT _ _ JC3.out hgr4) (fun _ => ?_)
                    try simp only [Act.put, List.setIfInBounds_toArray, List.set_cons_zero, List.set_cons_succ]
                    have hq4 := JS _ JC3.out; have hqq4 := hgr4.size
                    have JC4 := hide (JT _ _ JC3.out hgr4)
                    have RT4 := hide hown4
                    have RL4 := hide (or_grown RL3.out hgr4 (.inl (ne_new (fun e => LIL.out.elim (fun e2 => NLT.out.elim (fun e3 => e3 (by rw [e2, e])) (fun e3 => by rw [e3] at e2; cases e2)) (fun e2 => by have := FT.out _ e; omega)))))
                    have LIT := hide (show vt.ownBlock = some gT ∨ M.heap.size ≤ gT from hat4.elim .inl (fun e => .inr (by omega)))
                    have NE := hide (show gT ≠ gL from fun e => hat4.elim (fun e1 => LIL.out.elim (fun e2 => NLT.out.elim (fun e3 => e3 (by rw [e2, e1, e])) (fun e3 => by rw [e3] at e2; cases e2)) (fun e2 => by have := FT.out _ e1; omega)) (fun e1 => by omega))
                    clear hgr4 hown4 hat4
                    refine wpAnyH_done (by kernel_rfl) ?_ _
                    obtain ⟨hB, hO, hZ⟩ := JC4.out
                    have BB := hide hB
                    have OO := hide hO
                    clear hB hO hZ
                    dsimp only [TailPost]
                    go_wp2
                    refine ⟨⟨i + 1, o1, c1, some gL, capL, some gT, capT, by omega, by rw [E.out.1], by rw [E.out.2, List.length_append]; rfl, by rw [E.out.2, List.length_append]; rfl, by simp, by rw [E.out.1]; exact OO.out, ?_, ?_, ?_, ?_, ?_, BB.out⟩, by simp only [intOf]; omega⟩
                    · rw [E.out.2, List.map_append, List.length_append, ints_append]
                      exact ⟨RL4.out⟩
                    · rw [E.out.2, List.map_append, List.length_append, ints_append]
                      exact ⟨RT4.out⟩
                    · intro b e e2
                      cases e2
                      rcases LIL.out with e3 | e3
                      · exact D12.out _ e (by rw [← B12.out.1]; exact e3)
                      · have := (own_ge OM.out _ e).2; omega
                    · intro b e e2
                      cases e2
                      rcases LIT.out with e3 | e3
                      · exact D13.out _ e (by rw [← B12.out.2]; exact e3)
                      · have := (own_ge OM.out _ e).2; omega
                    · intro b e e2
                      cases e; cases e2
                      exact NE.out rfl
                  exact nil_
                exact nil_
              exact nil_
            exact nil_
        · have p1 : ((i : Int) < (m : Int)) = False := eq_false (by omega)
          have hin : i = m := by omega
          have ht : xs.take i = xs := by rw [hin, ← HLN.out, List.take_length]
          rw [ht] at O1 O2 O3
          have fz2 : wr.frozen? ⟨h, 2, none⟩ = false := (hB.frozen (p := ⟨h, 2, none⟩) HG.out).trans (bs_frozen HF.out.obj 2)
          have fz3 : wr.frozen? ⟨h, 3, none⟩ = false := (hB.frozen (p := ⟨h, 3, none⟩) HG.out).trans (bs_frozen HF.out.obj 3)
          have y3 : wr.cell? ⟨h, 3, none⟩ = _ := (hB.cell (p := ⟨h, 3, none⟩) HG.out).trans cT
          rw [ht]
          clear hO1 hO2 hO3 hB hin ht
          obtain ⟨a2, hv2⟩ : ∃ a, sl o2 (rest now xs).length c2 = .slice a (rest now xs).length c2 := ⟨_, rfl⟩
          obtain ⟨a3, hv3⟩ : ∃ a, sl o3 (rest now xs).length c3 = .slice a (rest now xs).length c3 := ⟨_, rfl⟩
          rw [hv2, hv3]
          have V2 := hide (And.intro hv2 hv3)
          clear hv2 hv3
          go_wp2
          go_ret2
          have hB2 := B1.out
          rw [HZ.out] at hB2
          have hL2 := O2.out
          have hT2 := O3.out
          rw [HZ.out] at hL2 hT2
          have A := radvanced HF.out hB2 (L' := (rest now xs).map (·.1)) (T' := (rest now xs).map (·.2)) (by rw [List.length_map]; exact hL2) (by rw [List.length_map]; exact hT2) D23.out
          rw [List.length_map, List.length_map, V2.out.1, V2.out.2] at A
          refine ⟨o1, c1, o2, o3, c2, c3, rfl, ?_, A.1, FW.out.trans A.2⟩
          have hO := O1.out
          refine (own_far (own_far hO (fun b e => by have := own_ge hO b e; have := HG.out; dsimp only; omega) _) (fun b e => by have := own_ge hO b e; have := HG.out; dsimp only; omega) _).base ?_
          have := HS.out
          exact this
end Go.Proofs.Ytnpeklimpdljbaa.EpocRef4


