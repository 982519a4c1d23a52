/- Epochs: what Advance does: contracts, for every state. -/
import Derived.Test.YtnpeklimpdljbaaEpocRows
namespace Go.Proofs.Ytnpeklimpdljbaa.EpocAdv
open Go.RowKit Go.Proofs.YtnpeklimpdljbaaKit Go.Proofs.YtnpeklimpdljbaaW.PrintWords Go.Proofs.YtnpeklimpdljbaaW.PrintLast Go.Proofs.Ytnpeklimpdljbaa.EpocBase Go.Proofs.Ytnpeklimpdljbaa.EpocOps Go.Proofs.Ytnpeklimpdljbaa.EpocRows
attribute [local go_sem] cell_alloc_some cell_alloc2_some cell_alloc3_some cell_alloc4_some
set_option linter.unusedVariables false
set_option linter.unusedSimpArgs false
def out (now : Int) (xs : List (Int × Int)) : List Int := (xs.filter fun x => decide (x.2 ≤ now - 1)).map (·.1)
def rest (now : Int) (xs : List (Int × Int)) : List (Int × Int) := xs.filter fun x => !decide (x.2 ≤ now - 1)
theorem step_out {now : Int} {xs : List (Int × Int)} {i : Nat} {x1 x2 : Int} (hx : xs[i]? = some (x1, x2)) (h : x2 ≤ now - 1) : out now (xs.take (i + 1)) = out now (xs.take i) ++ [x1] ∧ rest now (xs.take (i + 1)) = rest now (xs.take i) := by
  rw [List.take_add_one, hx, Option.toList_some]
  simp [out, rest, List.filter_append, h]
theorem step_rest {now : Int} {xs : List (Int × Int)} {i : Nat} {x1 x2 : Int} (hx : xs[i]? = some (x1, x2)) (h : ¬ x2 ≤ now - 1) : out now (xs.take (i + 1)) = out now (xs.take i) ∧ rest now (xs.take (i + 1)) = rest now (xs.take i) ++ [(x1, x2)] := by
  rw [List.take_add_one, hx, Option.toList_some]
  simp [out, rest, List.filter_append, h]
theorem out_le (now : Int) (xs : List (Int × Int)) (i : Nat) : (out now (xs.take i)).length ≤ i := by
  unfold out
  rw [List.length_map]
  exact Nat.le_trans (List.length_filter_le _ _) (List.length_take_le i xs)
theorem rest_le (now : Int) (xs : List (Int × Int)) (i : Nat) : (rest now (xs.take i)).length ≤ i :=
  Nat.le_trans (List.length_filter_le _ _) (List.length_take_le i xs)
theorem advanced {w W wr : World} {g pb : Nat} {lb rb : Option Nat} {cap rc n : Nat} {now : Int} {ps : List Int} {xs ys : List (Int × Int)} (h : Ep w W g pb lb cap now ps xs) (hb : Below W.heap.size W wr)
    (ho : Own wr W.heap.size 49 2 rb n rc (flat ys)) (hn : ys.length = n) :
    Ep w (wr.setCell ⟨g, 2, none⟩ (sl rb n rc)) g pb rb rc now ps ys ∧ Fr g pb W lb (wr.setCell ⟨g, 2, none⟩ (sl rb n rc)) rb := by
  subst hn
  have hlt := h.lt
  have hge := h.ge
  have hgs := bs_lt h.obj
  have hrb : ∀ b, rb = some b → W.heap.size ≤ b := fun b e => by subst e; exact (own_base ho).1
  refine ⟨⟨?_, ?_, ?_, h.lt, h.ge, be_set (be_call hb h.below.size h.below) (by dsimp only; omega)⟩, ⟨?_, ?_, ?_⟩⟩
  · have := bs_same (i := 2) (v := sl rb ys.length rc) (bs_below hb hgs h.obj)
    simpa using this
  · exact bs_far (bs_below hb (bs_lt h.pins) h.pins) (by dsimp only; omega)
  · refine (ho.base (by omega)).keep fun b e _ => Below.heap_setCell wr _ _ b (by have := hrb b e; dsimp only; omega)
  · intro k hk k1 k2 k3
    exact (Below.heap_setCell wr _ _ k k1).trans (hb.block k hk)
  · intro k hk k3 e
    have := hrb k e.symm
    omega
  · rw [World.size_setCell]
    exact hb.size
set_option maxHeartbeats 8000000 in
set_option maxRecDepth 100000 in
theorem adv_no (w W : World) (g pb : Nat) (lb : Option Nat) (cap : Nat) (now : Int) (ps : List Int) (xs : List (Int × Int)) (h : Ep w W g pb lb cap now ps xs) (hps : ∀ p ∈ ps, 0 ≤ p ∧ p ≤ 1000000) (hpl : ps.length ≤ 1000) (hc : canB now ps = false) :
    Calls Try.prog 9 #[.pointer (some ⟨g, 0, none⟩)] W fun e W' => e = .returned (.tuple #[.slice none 0 0, .bool false]) ∧ W' = W := by
  have H := can_calls w W g pb lb cap now ps xs h hps hpl
  rw [hc] at H
  have H := hide H
  clear hc h hps hpl
  go_enter Try.func9, Try.ntmps9
  go_wp2_with (go_at_call 22; with_reducible refine H.out.mono ?_; rintro e v ⟨rfl, hv⟩; subst v)
  go_ret2
  exact ⟨rfl, rfl⟩
set_option maxHeartbeats 16000000 in
set_option maxRecDepth 100000 in
theorem adv_yes (w W : World) (g pb : Nat) (lb : Option Nat) (cap : Nat) (now : Int) (ps : List Int) (xs : List (Int × Int)) (h : Ep w W g pb lb cap now ps xs) (hps : ∀ p ∈ ps, 0 ≤ p ∧ p ≤ 1000000) (hpl : ps.length ≤ 1000) (hl : xs.length ≤ 1000000) (hnow : 0 ≤ now ∧ now ≤ 1000000) (hc : canB now ps = true) :
    Calls Try.prog 9 #[.pointer (some ⟨g, 0, none⟩)] W fun e W' => ∃ ob oc lb' cap', e = .returned (.tuple #[sl ob (out now xs).length oc, .bool true]) ∧ Own W' W.heap.size 3 1 ob (out now xs).length oc (intsOf (out now xs)) ∧ Ep w W' g pb lb' cap' (now + 1) ps (rest now xs) ∧ Fr g pb W lb W' lb' := by
  have H := can_calls w W g pb lb cap now ps xs h hps hpl
  rw [hc] at H
  have H := hide H
  have HP := hide h
  obtain ⟨c0, c1, c2⟩ := h.c
  have fz := fun j => bs_frozen h.obj j
  have hw1 : wrap64 (now + 1) = now + 1 := by unfold wrap64; omega
  clear hc h hps hpl
  obtain ⟨S0, hS⟩ : ∃ S0, S0 = W.heap.size := ⟨_, rfl⟩
  rw [← hS]
  go_enter Try.func9, Try.ntmps9
  go_upto_region 6 with (go_at_call 22; with_reducible refine H.out.mono ?_; rintro e v ⟨rfl, hv⟩; subst v)
  refine wp_letter (fun W1 => Ep w W1 g pb lb cap (now + 1) ps xs ∧ Fr g pb W lb W1 lb ∧ S0 = W1.heap.size) ⟨HP.out.set_now (now + 1), ?hf, by rw [hS]; simp⟩ ?_
  case hf => exact ⟨fun k _ h1 _ _ => Below.heap_setCell W _ _ k h1, fun k _ h => h, Nat.le_of_eq (World.size_setCell W _ _).symm⟩
  rintro W1 ⟨h1, F1, hS1⟩
  clear c0 c1 c2 fz HP hw1 hS
  have HP := hide h1
  have FW := hide F1
  obtain ⟨la, hla⟩ : ∃ la : Option Addr, la = lb.map fun b => ⟨b, 0, none⟩ := ⟨_, rfl⟩
  have c2 : W1.cell? ⟨g, 2, none⟩ = some (.slice la xs.length cap) := by rw [hla]; exact h1.c.2.2
  have HX := hide (show ∀ (i : Nat) (x : Int × Int), xs[i]? = some x → ∃ b, la = some ⟨b, 0, none⟩ ∧ b < W1.heap.size ∧ W1.cell? ⟨b, i * 2, none⟩ = some (.int .i64 x.1) ∧ W1.cell? ⟨b, i * 2 + 1, none⟩ = some (.int .i64 x.2) from fun i x hx => by
    obtain ⟨b, h1, h2⟩ := Ep.pair h1 i x hx
    exact ⟨b, by rw [hla, h1]; rfl, h2⟩)
  obtain ⟨n, hn⟩ : ∃ n, n = xs.length := ⟨_, rfl⟩
  rw [← hn] at c2 hl
  have HN := hide hn
  have HS := hide hS1
  clear hla hn hS1 F1
  obtain ⟨i0, hi, hz0, hz1, hz2⟩ := info_parts intInfo
  obtain ⟨i1, hi1, hv0, hv1, hv2⟩ := info_parts pairInfo
  have HG := hide (show g < S0 by rw [HS.out]; exact bs_lt h1.obj)
  clear h1
  go_wp2
  go_loopw [4, 5, 23] (fun v4 v5 v23 wr => ∃ i : Nat, ∃ ob oc rb rc, i ≤ n ∧ v4 = sl ob (out now (xs.take i)).length oc ∧ v5 = sl rb (rest now (xs.take i)).length rc ∧ v23 = .int .i64 (i : Int) ∧ Own wr S0 3 1 ob (out now (xs.take i)).length oc (intsOf (out now (xs.take i))) ∧ Own wr S0 49 2 rb (rest now (xs.take i)).length rc (flat (rest now (xs.take i))) ∧ Below S0 W1 wr) (fun _ _ v23 _ => n - (intOf v23).toNat)
  case atStart => exact ⟨0, none, 0, none, 0, Nat.zero_le _, rfl, rfl, rfl, Own.nil _ _ _ _, Own.nil _ _ _ _, by rw [HS.out]; exact be_refl _⟩
  case round =>
    obtain ⟨i, ob, oc, rb, rc, hi9, rfl, rfl, rfl, hO, hR, hB⟩ := hrel
    have O1 := hide hO
    have R1 := hide hR
    have B1 := hide hB
    have LO := hide (out_le now xs i)
    have LR := hide (rest_le now xs i)
    by_cases hlt : i < n
    · have p1 : ((i : Int) < (n : Int)) = True := eq_true (by omega)
      have p0 : (0 : Int) ≤ (i : Int) := by omega
      obtain ⟨⟨x1, x2⟩, hx⟩ : ∃ x, xs[i]? = some x := ⟨_, List.getElem?_eq_getElem (by have := HN.out; omega)⟩
      obtain ⟨b, rfl, hb, z1, z2⟩ := HX.out i (x1, x2) hx
      have hbl : b < S0 := by rw [HS.out]; exact hb
      have y1 : wr.cell? ⟨b, i * 2, none⟩ = some (.int .i64 x1) := (hB.cell (p := ⟨b, i * 2, none⟩) hbl).trans z1
      have y2 : wr.cell? ⟨b, i * 2 + 1, none⟩ = some (.int .i64 x2) := (hB.cell (p := ⟨b, i * 2 + 1, none⟩) hbl).trans z2
      have SO := hide (fun h => step_out (now := now) hx h)
      have SR := hide (fun h => step_rest (now := now) hx h)
      clear z1 z2 hB hO hR hb hbl hx
      have hw : wrap64 ((i : Int) + 1) = (i : Int) + 1 := by unfold wrap64; omega
      generalize hu : out now (xs.take i) = us at *
      generalize hy : rest now (xs.take i) = ys at *
      go_upto_region 9 with fail
      refine wp_letter (fun L => Own L S0 3 1 ob us.length oc (intsOf us) ∧ Own L S0 49 2 rb ys.length rc (flat ys) ∧ Below S0 W1 L ∧ S0 ≤ L.heap.size ∧ L.heap[wr.heap.size]? = some (.cells #[.int .i64 x1, .int .i64 x2] 49 (0, 0))) ⟨O1.out.below (be_alloc (be_refl _) (Nat.le_refl _)), R1.out.below (be_alloc (be_refl _) (Nat.le_refl _)), be_alloc B1.out (by have := B1.out.size; have := HS.out; omega), by have := B1.out.size; have := HS.out; simp; omega, by (repeat (first | (with_reducible assumption) | (with_reducible apply bs_same) | (with_reducible apply bs_far; case hp => (dsimp only; omega)) | (with_reducible apply bs_drew) | (with_reducible apply bs_drewN) | (with_reducible apply bs_new; (first | (with_reducible rfl) | (simp; done))) | (with_reducible apply bs_alloc) | (with_reducible apply bs_below; (case hb => with_reducible assumption); (case hB => first | omega | (simp; omega) | (simp; done)))))⟩ ?_
      rintro L ⟨hO2, hR2, hB2, hSL, hb2⟩
      obtain ⟨z1, z2, zf⟩ := cells2 hb2
      have c0 : L.cell? ⟨g, 0, none⟩ = some (.int .i64 (now + 1)) := (hB2.cell (p := ⟨g, 0, none⟩) HG.out).trans HP.out.c.1
      have hw2 : IntKind.i64.wrap (now + 1 - 2) = now - 1 := by rw [IntKind.wrap_i64]; omega
      have hw3 : wrap64 (now + 1 - 2) = now - 1 := by unfold wrap64; omega
      have O2 := hide hO2
      have R2 := hide hR2
      have B2 := hide hB2
      have SL := hide hSL
      have Z2 := hide hb2
      clear hO2 hR2 hB2 hSL hb2 y1 y2
      by_cases ho : x2 ≤ now - 1
      · have q1 : (x2 ≤ now - 1) = True := eq_true ho
        have E := hide (SO.out ho)
        clear SO SR ho
        go_upto_region 9 with fail
        go_region
        go_upto_region 10 with fail
        refine wp_letter (fun M => Own M S0 3 1 ob us.length oc (intsOf us) ∧ Own M S0 49 2 rb ys.length rc (flat ys) ∧ Below S0 W1 M ∧ S0 ≤ M.heap.size ∧ M.heap[wr.heap.size]? = some (.cells #[.int .i64 x1, .int .i64 x2] 49 (0, 0))) ⟨O2.out.below (be_drew (be_refl _)), R2.out.below (be_drew (be_refl _)), be_drew B2.out, SL.out, Z2.out⟩ ?_
        rintro M ⟨hO3, hR3, hB3, hSM, hb3⟩
        clear z1 z2 zf c0
        obtain ⟨z1, z2, zf⟩ := cells2 hb3
        have O3 := hide hO3
        have R3 := hide hR3
        have B3 := hide hB3
        have SM := hide hSM
        have HAA : Hid (∀ o, (M.alloc o).ownsRow S0 3 1 (sl ob us.length oc) us.length (intsOf us)) := fun o => (hO3.below (be_alloc (be_refl _) (Nat.le_refl _))).owns
        have lo := LO.out
        have lr := LR.out
        clear hO3 hR3 hB3 hb3
        go_wp2_with (at_builtin; refine wpList_append_lies _ rfl (.tmp 35) (.tmp 38) 22 rfl S0 3 i0 _ 1 8 Try.underlying22 hi hz0 hz1 hz2 rfl (by omega) (sl ob us.length oc) us.length _ rfl (HAA.out _) ⟨M.heap.size, 0, none⟩ 1 1 [.int .i64 x1] rfl rfl (World.news_of_block (cs := #[.int .i64 x1]) (t := 3) (fr := (0, 0)) (heap_alloc_new M _)) (by simp [Value.oneCell']) (by omega) (by unfold maxLen; omega) (by omega) (by simp; omega) (M.heap.size + 1) (by simp) ?_; intro gg cap1 w1 hown1 hgrow hat hlt1)
        rw [sl_block] at hgrow
        refine ⟨⟨i + 1, some gg, cap1, rb, rc, by omega, by rw [E.out.1, List.length_append]; rfl, by rw [E.out.2], by simp, by rw [E.out.1, List.length_append, ints_append]; exact ⟨hown1⟩, ?_, ?_⟩, ?_⟩
        · rw [E.out.2]
          exact Own.grown (R3.out.below (be_alloc (be_refl _) (Nat.le_refl _))) hgrow (fun b hb e => by subst hb; subst e; have := own_apart O3.out R3.out; revert this; decide)
        · exact below_grown (be_alloc B3.out SM.out) (by have := SM.out; simp; omega) hgrow (fun b hb => by subst hb; exact (own_base O3.out).1)
        · simp only [intOf]; omega
      · have q1 : (x2 ≤ now - 1) = False := eq_false ho
        have E := hide (SR.out ho)
        clear SO SR ho
        go_upto_region 9 with fail
        go_region
        go_upto_region 11 with fail
        refine wp_letter (fun M => Own M S0 3 1 ob us.length oc (intsOf us) ∧ Own M S0 49 2 rb ys.length rc (flat ys) ∧ Below S0 W1 M ∧ S0 ≤ M.heap.size ∧ M.heap[wr.heap.size]? = some (.cells #[.int .i64 x1, .int .i64 x2] 49 (0, 0))) ⟨O2.out.below (be_drew (be_refl _)), R2.out.below (be_drew (be_refl _)), be_drew B2.out, SL.out, Z2.out⟩ ?_
        rintro M ⟨hO3, hR3, hB3, hSM, hb3⟩
        clear z1 z2 zf c0
        obtain ⟨z1, z2, zf⟩ := cells2 hb3
        have O3 := hide hO3
        have R3 := hide hR3
        have B3 := hide hB3
        have SM := hide hSM
        have HAA : Hid (∀ o, (M.alloc o).ownsRow S0 49 2 (sl rb ys.length rc) ys.length (flat ys)) := fun o => (hR3.below (be_alloc (be_refl _) (Nat.le_refl _))).owns
        have lo := LO.out
        have lr := LR.out
        clear hO3 hR3 hB3 hb3
        go_wp2_with (at_builtin; refine wpList_append_lies _ rfl (.tmp 40) (.tmp 42) 45 rfl S0 49 i1 _ 2 16 Try.underlying45 hi1 hv0 hv1 hv2 rfl (by omega) (sl rb ys.length rc) ys.length _ rfl (HAA.out _) ⟨M.heap.size, 0, none⟩ 1 1 [.int .i64 x1, .int .i64 x2] rfl rfl (World.news_of_block (cs := #[.int .i64 x1, .int .i64 x2]) (t := 49) (fr := (0, 0)) (heap_alloc_new M _)) (by simp [Value.oneCell']) (by omega) (by unfold maxLen; omega) (by omega) (by simp; omega) (M.heap.size + 1) (by simp) ?_; intro gg cap1 w1 hown1 hgrow hat hlt1)
        rw [sl_block] at hgrow
        refine ⟨⟨i + 1, ob, oc, some gg, cap1, by omega, by rw [E.out.1], by rw [E.out.2, List.length_append]; rfl, by simp, ?_, by rw [E.out.2, List.length_append, flat_append]; exact ⟨hown1⟩, ?_⟩, ?_⟩
        · rw [E.out.1]
          exact Own.grown (O3.out.below (be_alloc (be_refl _) (Nat.le_refl _))) hgrow (fun b hb e => by subst hb; subst e; have := own_apart O3.out R3.out; revert this; decide)
        · exact below_grown (be_alloc B3.out SM.out) (by have := SM.out; simp; omega) hgrow (fun b hb => by subst hb; exact (own_base R3.out).1)
        · simp only [intOf]; omega
    · have p1 : ((i : Int) < (n : Int)) = False := eq_false (by omega)
      have hin : i = n := by omega
      have ht : xs.take i = xs := by rw [hin, HN.out, List.take_length]
      rw [ht] at O1 R1
      have c2' : wr.cell? ⟨g, 2, none⟩ = some (.slice la n cap) := (hB.cell (p := ⟨g, 2, none⟩) HG.out).trans c2
      have fz2 : wr.frozen? ⟨g, 2, none⟩ = false := (hB.frozen (p := ⟨g, 2, none⟩) HG.out).trans (bs_frozen HP.out.obj 2)
      rw [ht]
      clear hO hR hB hin ht
      obtain ⟨ra, hra⟩ : ∃ ra : Option Addr, ra = rb.map fun b => ⟨b, 0, none⟩ := ⟨_, rfl⟩
      have hsl : sl rb (rest now xs).length rc = .slice ra (rest now xs).length rc := by rw [hra]; rfl
      rw [hsl]
      have HSL := hide hsl
      clear hra hsl
      go_wp2
      go_ret2
      have hB2 := B1.out
      rw [HS.out] at hB2
      have hR2 := R1.out
      rw [HS.out] at hR2
      have A := advanced HP.out hB2 hR2 rfl
      rw [HSL.out] at A
      refine ⟨ob, oc, rb, rc, rfl, ?_, A.1, FW.out.trans A.2⟩
      refine O1.out.keep fun b e _ => Below.heap_setCell wr _ _ b ?_
      subst e
      have := (own_base O1.out).1
      have := HG.out
      dsimp only; omega
end Go.Proofs.Ytnpeklimpdljbaa.EpocAdv

