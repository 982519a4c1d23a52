/- Rows of cells: Put, Clear, Insert and Delete: contracts, without a condition of their own. -/
import Derived.Test.YteelcbjapbhogaaRowsOps
namespace Go.Proofs.Yteelcbjapbhogaa.RowsMore
open Go Go.RowKit Go.Proofs.YteelcbjapbhogaaKit Go.Proofs.Yteelcbjapbhogaa.Mem Go.Proofs.Yteelcbjapbhogaa.RowsBase Go.Proofs.Yteelcbjapbhogaa.RowsRep Go.Proofs.Yteelcbjapbhogaa.RowsOps
attribute [local go_sem] cell_alloc_some cell_alloc2_some cell_alloc3_some cell_alloc4_some
set_option linter.unusedVariables false
set_option linter.unusedSimpArgs false
def put (cs : List C) (x : Int) (c : C) : List C := if 0 ≤ x ∧ x < cs.length then cs.set x.toNat c else cs
theorem put_len (cs : List C) (x : Int) (c : C) : (put cs x c).length = cs.length := by unfold put; split <;> simp
theorem own_at {W : World} {base : Nat} {lb : Option Nat} {n cap : Nat} {cs : List C} (h : Own W base 23 2 lb n cap (flat cs)) (hn : cs.length = n) (hpos : 0 < n) : ∃ g, lb = some g ∧ base ≤ g ∧ g < W.heap.size ∧ n ≤ cap ∧ ∀ i, i < n → (∃ v0 v1, W.cell? ⟨g, i * 2, none⟩ = some v0 ∧ W.cell? ⟨g, i * 2 + 1, none⟩ = some v1) ∧ ∀ j, W.frozen? ⟨g, j, none⟩ = false := by
  obtain ⟨hl, h1 | ⟨g, cap', cur, hv, hg, hb, hnc, hc, hs, ht⟩⟩ := h.owns
  · omega
  · cases lb with
    | none => simp [sl] at hv
    | some b =>
      simp [sl] at hv
      obtain ⟨rfl, rfl⟩ := hv
      refine ⟨b, rfl, hg, bs_lt hb, hnc, fun i hi => ⟨?_, bs_frozen hb⟩⟩
      obtain ⟨f1, f2⟩ := flat_get cs i cs[i] (List.getElem?_eq_getElem (by omega))
      obtain ⟨b1, e1, _, _, c1⟩ := h.cell _ _ f1
      obtain ⟨b2, e2, _, _, c2⟩ := h.cell _ _ f2
      cases e1; cases e2
      exact ⟨_, _, c1, c2⟩
theorem Own.set_cell {W : World} {base g n cap : Nat} {cs : List C} (h : Own W base 23 2 (some g) n cap (flat cs)) (i : Nat) (c : C) :
    Own ((W.setCell ⟨g, i * 2, none⟩ (.int .i32 c.1)).setCell ⟨g, i * 2 + 1, none⟩ (.int .i64 c.2)) base 23 2 (some g) n cap (flat (cs.set i c)) := by
  have := (h.set (i := i * 2) (.int .i32 c.1)).set (i := i * 2 + 1) (.int .i64 c.2)
  rwa [flat_set] at this
set_option maxHeartbeats 8000000 in
set_option maxRecDepth 100000 in
theorem put_row (w : World) (oa : Option Addr) (n k : Nat) (cs : List C) (hn : cs.length = n) (hr : RdC w 0 oa cs) (hl : n ≤ 1000000000) (x : Int) (c : C) :
    Calls Try.prog 10 #[.slice oa n k, .int .i64 x, .agg #[.int .i32 c.1, .int .i64 c.2]] w fun e w' => ∃ lb cap, e = .returned (sl lb n cap) ∧ Own w' w.heap.size 23 2 lb n cap (flat (put cs x c)) ∧ Below w.heap.size w w' := by
  obtain ⟨c1, c2⟩ := c
  have HC := hide (show ∀ W, Below w.heap.size w W → Calls Try.prog 13 #[.slice oa n k] W fun e w' => ∃ lb cap, e = .returned (sl lb n cap) ∧ Own w' W.heap.size 23 2 lb n cap (flat cs) ∧ Below W.heap.size W w' from fun W hB => clone_calls W oa n k cs hn (hr.below hB) hl)
  have HI := fun W => hide (in_calls W oa n k x)
  have HN := hide hn
  have BA := hide (show Below w.heap.size w (w.alloc (.cells #[.int .i32 c1, .int .i64 c2] 23)) from be_alloc (be_refl _) (Nat.le_refl _))
  by_cases hin : 0 ≤ x ∧ x < (n : Int)
  · have hd : (decide (0 ≤ x) && decide (x < (n : Int))) = true := by simp; exact hin
    rw [hd] at HI
    obtain ⟨i, rfl⟩ : ∃ i : Nat, x = (i : Int) := ⟨x.toNat, by omega⟩
    have HP := hide (show put cs (i : Int) (c1, c2) = cs.set i (c1, c2) by unfold put; rw [if_pos (by rw [hn]; exact hin)]; simp)
    obtain ⟨h0, h1⟩ := hin
    have HL := hide (show i < n by omega)
    clear hd hn hr hl
    go_enter Try.func10, Try.ntmps10
    go_upto_region 3 with (first
      | (go_at_call 13; refine (HC.out _ BA.out).mono ?_; rintro e W1 ⟨lb, cap, rfl, hO, hB⟩; have O1 := hide hO; have B1 := hide hB; clear hO hB)
      | (go_at_call 14; with_reducible refine (HI _).out.mono ?_; rintro e v ⟨rfl, hv⟩; subst v))
    obtain ⟨g, rfl, hg, hgs, hnc, hcells⟩ := own_at O1.out HN.out (by have := HL.out; omega)
    obtain ⟨⟨v0, v1, x0, x1⟩, fz⟩ := hcells i HL.out
    have B2 := hide B1.out
    have y0 : W1.cell? ⟨w.heap.size, 0, none⟩ = some (.int .i32 c1) := by
      have h := bs_below B1.out (by simp) (bs_new (w := w) (o := .cells #[.int .i32 c1, .int .i64 c2] 23) rfl)
      exact (bs_cell h 0).trans rfl
    have y1 : W1.cell? ⟨w.heap.size, 1, none⟩ = some (.int .i64 c2) := by
      have h := bs_below B1.out (by simp) (bs_new (w := w) (o := .cells #[.int .i32 c1, .int .i64 c2] 23) rfl)
      exact (bs_cell h 1).trans rfl
    have HG := hide hg
    clear hcells hgs hg
    simp only [sl_some]
    go_wp2
    go_ret
    refine ⟨some g, cap, rfl, ?_, ?_⟩
    · rw [HP.out]
      exact (Own.set_cell O1.out i (c1, c2)).lower (by simp)
    · exact be_set (be_set (be_call B1.out (by simp) BA.out) (by have := HG.out; simp at this ⊢; omega)) (by have := HG.out; simp at this ⊢; omega)
  · have hd : (decide (0 ≤ x) && decide (x < (n : Int))) = false := by simp; omega
    rw [hd] at HI
    have HP := hide (show put cs x (c1, c2) = cs by unfold put; rw [if_neg (by rw [hn]; exact hin)])
    clear hd hn hr hl hin
    go_enter Try.func10, Try.ntmps10
    go_wp2_with (first
      | (go_at_call 13; refine (HC.out _ BA.out).mono ?_; rintro e W1 ⟨lb, cap, rfl, hO, hB⟩; have O1 := hide hO; have B1 := hide hB; clear hO hB)
      | (go_at_call 14; with_reducible refine (HI _).out.mono ?_; rintro e v ⟨rfl, hv⟩; subst v))
    go_ret
    exact ⟨lb, cap, rfl, by rw [HP.out]; exact O1.out.lower (by simp), be_call B1.out (by simp) BA.out⟩
theorem max_nat (a : Nat) (f : Int) : (max f 0).toNat = a → ((f < 0) = True ∧ a = 0) ∨ ((f < 0) = False ∧ f = (a : Int)) := fun h => by
  by_cases h0 : f < 0
  · exact .inl ⟨eq_true h0, by omega⟩
  · exact .inr ⟨eq_false h0, by omega⟩
theorem clr_up (cs : List C) (a b : Nat) : clr cs a (max a b) = clr cs a b := by
  by_cases h : b ≤ a
  · rw [clr_self _ _ _ h, clr_self _ _ _ (by omega)]
  · rw [Nat.max_eq_right (by omega)]
set_option maxHeartbeats 16000000 in
set_option maxRecDepth 100000 in
theorem clear_row (w : World) (oa : Option Addr) (n k : Nat) (cs : List C) (hn : cs.length = n) (hr : RdC w 0 oa cs) (hl : n ≤ 1000000000) (f t : Int) :
    Calls Try.prog 8 #[.slice oa n k, .int .i64 f, .int .i64 t] w fun e w' => ∃ lb cap, e = .returned (sl lb n cap) ∧ Own w' w.heap.size 23 2 lb n cap (flat (clr cs (max f 0).toNat (min t n).toNat)) ∧ Below w.heap.size w w' := by
  have HC := hide (show ∀ W, Below w.heap.size w W → Calls Try.prog 13 #[.slice oa n k] W fun e w' => ∃ lb cap, e = .returned (sl lb n cap) ∧ Own w' W.heap.size 23 2 lb n cap (flat cs) ∧ Below W.heap.size W w' from fun W hB => clone_calls W oa n k cs hn (hr.below hB) hl)
  have HB := fun W => hide (blank_calls W)
  have HN := hide hn
  obtain ⟨a, ha⟩ : ∃ a, (max f 0).toNat = a := ⟨_, rfl⟩
  rw [ha]
  have hf := max_nat a f ha
  obtain ⟨B, hB⟩ : ∃ B : Int, min t n = B := ⟨_, rfl⟩
  have hB2 : (((n : Int) < t) = False ∧ B = t) ∨ (((n : Int) < t) = True ∧ B = n) := by
    by_cases h : (n : Int) < t
    · exact .inr ⟨eq_true h, by omega⟩
    · exact .inl ⟨eq_false h, by omega⟩
  have HBN := hide (show B ≤ n by omega)
  rw [hB]
  obtain ⟨S0, hS⟩ : ∃ S0, S0 = w.heap.size := ⟨_, rfl⟩
  have HS := hide hS
  have HL := hide hl
  rw [← hS]
  clear hn hr ha hB hS
  have HF := hide hf
  clear hf
  have main : ∀ (d : Bool), (d = true → ((n : Int) < t) = False ∧ B = t) → (d = false → ((n : Int) < t) = True ∧ B = n) →
      Calls Try.prog 8 #[.slice oa n k, .int .i64 f, .int .i64 t] w fun e w' => ∃ lb cap, e = .returned (sl lb n cap) ∧ Own w' S0 23 2 lb n cap (flat (clr cs a B.toNat)) ∧ Below S0 w w' := by
    intro d h1 h2
    rcases HF.out with ⟨q0, rfl⟩ | ⟨q0, rfl⟩
    · cases d
      · obtain ⟨p1, rfl⟩ := h2 rfl
        clear h1 h2 hB2 hl
        go_enter Try.func8, Try.ntmps8
        go_wp2_with (go_at_call 13; refine (HC.out _ (be_refl _)).mono ?_; rintro e W1 ⟨lb, cap, rfl, hO, hB⟩; have O1 := hide hO; have B1 := hide hB; clear hO hB)
        go_loopw [8] (fun v8 wr => ∃ x : Nat, 0 ≤ x ∧ x ≤ max 0 ((n : Int)).toNat ∧ v8 = .int .i64 (x : Int) ∧ Own wr S0 23 2 lb n cap (flat (clr cs 0 x)) ∧ Below S0 w wr) (fun v8 _ => (((n : Int)).toNat - (intOf v8).toNat))
        case atStart => exact ⟨0, Nat.le_refl _, Nat.le_max_left _ _, rfl, by rw [clr_self _ _ _ (Nat.le_refl _), HS.out]; exact O1.out, by rw [HS.out]; exact B1.out⟩
        case round =>
          obtain ⟨x, hx1, hx2, rfl, hO, hB⟩ := hrel
          have O2 := hide hO
          have B2 := hide hB
          clear hO hB
          by_cases hlt : (x : Int) < (n : Int)
          · have r1 : ((x : Int) < (n : Int)) = True := eq_true hlt
            have hxn : x < n := by have := HBN.out; omega
            obtain ⟨g, rfl, hg, hgs, hnc, _⟩ := own_at O2.out (by rw [clr_len]; exact HN.out) (by omega)
            have r2 : (0 : Int) ≤ (x : Int) := by omega
            have r3 : (x : Int) < (n : Int) := by omega
            have HX := hide (And.intro hx1 (And.intro hx2 (And.intro hlt hxn)))
            have HG := hide hg
            have HNC := hide hnc
            have hw : wrap64 ((x : Int) + 1) = (x : Int) + 1 := by have := HL.out; unfold wrap64; omega
            have HWW := hide hw
            clear hx1 hx2 hlt hxn hg hgs hnc hw
            simp only [sl_some]
            go_wp2_with (go_at_call 15; with_reducible refine (HB _).out.mono ?_; rintro e W3 ⟨rfl, hb3⟩; have O3 := hide (O2.out.below hb3); have B3 := hide (be_call hb3 (by rw [HS.out]; exact B2.out.size) B2.out); obtain ⟨g3, e3, _, _, _, hcells⟩ := own_at O3.out (by rw [clr_len]; exact HN.out) (by have := HX.out; omega); cases e3; obtain ⟨⟨v0, v1, x0, x1⟩, fz⟩ := hcells x HX.out.2.2.2; clear hcells hb3)
            have ST := clr_step cs 0 x HX.out.1
            refine ⟨⟨x + 1, by have := HX.out; omega, by have := HX.out; omega, by rw [HWW.out]; simp, by rw [← ST]; exact Own.set_cell O3.out x blk, be_set (be_set B3.out (by have := HG.out; dsimp only; omega)) (by have := HG.out; dsimp only; omega)⟩, ?_⟩
            rw [HWW.out]; simp only [intOf]; have := HX.out; omega
          · have r1 : ((x : Int) < (n : Int)) = False := eq_false hlt
            have hxe : clr cs 0 x = clr cs 0 ((n : Int)).toNat := by
              rw [show x = max 0 ((n : Int)).toNat by omega]
              exact clr_up _ _ _
            rw [hxe] at O2
            clear hx1 hx2 hlt hxe
            go_wp2
            go_ret
            exact ⟨lb, cap, rfl, O2.out, B2.out⟩
      · obtain ⟨p1, rfl⟩ := h1 rfl
        clear h1 h2 hB2 hl
        go_enter Try.func8, Try.ntmps8
        go_wp2_with (go_at_call 13; refine (HC.out _ (be_refl _)).mono ?_; rintro e W1 ⟨lb, cap, rfl, hO, hB⟩; have O1 := hide hO; have B1 := hide hB; clear hO hB)
        go_loopw [8] (fun v8 wr => ∃ x : Nat, 0 ≤ x ∧ x ≤ max 0 (B).toNat ∧ v8 = .int .i64 (x : Int) ∧ Own wr S0 23 2 lb n cap (flat (clr cs 0 x)) ∧ Below S0 w wr) (fun v8 _ => ((B).toNat - (intOf v8).toNat))
        case atStart => exact ⟨0, Nat.le_refl _, Nat.le_max_left _ _, rfl, by rw [clr_self _ _ _ (Nat.le_refl _), HS.out]; exact O1.out, by rw [HS.out]; exact B1.out⟩
        case round =>
          obtain ⟨x, hx1, hx2, rfl, hO, hB⟩ := hrel
          have O2 := hide hO
          have B2 := hide hB
          clear hO hB
          by_cases hlt : (x : Int) < B
          · have r1 : ((x : Int) < B) = True := eq_true hlt
            have hxn : x < n := by have := HBN.out; omega
            obtain ⟨g, rfl, hg, hgs, hnc, _⟩ := own_at O2.out (by rw [clr_len]; exact HN.out) (by omega)
            have r2 : (0 : Int) ≤ (x : Int) := by omega
            have r3 : (x : Int) < (n : Int) := by omega
            have HX := hide (And.intro hx1 (And.intro hx2 (And.intro hlt hxn)))
            have HG := hide hg
            have HNC := hide hnc
            have hw : wrap64 ((x : Int) + 1) = (x : Int) + 1 := by have := HL.out; unfold wrap64; omega
            have HWW := hide hw
            clear hx1 hx2 hlt hxn hg hgs hnc hw
            simp only [sl_some]
            go_wp2_with (go_at_call 15; with_reducible refine (HB _).out.mono ?_; rintro e W3 ⟨rfl, hb3⟩; have O3 := hide (O2.out.below hb3); have B3 := hide (be_call hb3 (by rw [HS.out]; exact B2.out.size) B2.out); obtain ⟨g3, e3, _, _, _, hcells⟩ := own_at O3.out (by rw [clr_len]; exact HN.out) (by have := HX.out; omega); cases e3; obtain ⟨⟨v0, v1, x0, x1⟩, fz⟩ := hcells x HX.out.2.2.2; clear hcells hb3)
            have ST := clr_step cs 0 x HX.out.1
            refine ⟨⟨x + 1, by have := HX.out; omega, by have := HX.out; omega, by rw [HWW.out]; simp, by rw [← ST]; exact Own.set_cell O3.out x blk, be_set (be_set B3.out (by have := HG.out; dsimp only; omega)) (by have := HG.out; dsimp only; omega)⟩, ?_⟩
            rw [HWW.out]; simp only [intOf]; have := HX.out; omega
          · have r1 : ((x : Int) < B) = False := eq_false hlt
            have hxe : clr cs 0 x = clr cs 0 (B).toNat := by
              rw [show x = max 0 (B).toNat by omega]
              exact clr_up _ _ _
            rw [hxe] at O2
            clear hx1 hx2 hlt hxe
            go_wp2
            go_ret
            exact ⟨lb, cap, rfl, O2.out, B2.out⟩
    · cases d
      · obtain ⟨p1, rfl⟩ := h2 rfl
        clear h1 h2 hB2 hl
        go_enter Try.func8, Try.ntmps8
        go_wp2_with (go_at_call 13; refine (HC.out _ (be_refl _)).mono ?_; rintro e W1 ⟨lb, cap, rfl, hO, hB⟩; have O1 := hide hO; have B1 := hide hB; clear hO hB)
        go_loopw [8] (fun v8 wr => ∃ x : Nat, a ≤ x ∧ x ≤ max a ((n : Int)).toNat ∧ v8 = .int .i64 (x : Int) ∧ Own wr S0 23 2 lb n cap (flat (clr cs a x)) ∧ Below S0 w wr) (fun v8 _ => (((n : Int)).toNat - (intOf v8).toNat))
        case atStart => exact ⟨a, Nat.le_refl _, Nat.le_max_left _ _, rfl, by rw [clr_self _ _ _ (Nat.le_refl _), HS.out]; exact O1.out, by rw [HS.out]; exact B1.out⟩
        case round =>
          obtain ⟨x, hx1, hx2, rfl, hO, hB⟩ := hrel
          have O2 := hide hO
          have B2 := hide hB
          clear hO hB
          by_cases hlt : (x : Int) < (n : Int)
          · have r1 : ((x : Int) < (n : Int)) = True := eq_true hlt
            have hxn : x < n := by have := HBN.out; omega
            obtain ⟨g, rfl, hg, hgs, hnc, _⟩ := own_at O2.out (by rw [clr_len]; exact HN.out) (by omega)
            have r2 : (0 : Int) ≤ (x : Int) := by omega
            have r3 : (x : Int) < (n : Int) := by omega
            have HX := hide (And.intro hx1 (And.intro hx2 (And.intro hlt hxn)))
            have HG := hide hg
            have HNC := hide hnc
            have hw : wrap64 ((x : Int) + 1) = (x : Int) + 1 := by have := HL.out; unfold wrap64; omega
            have HWW := hide hw
            clear hx1 hx2 hlt hxn hg hgs hnc hw
            simp only [sl_some]
            go_wp2_with (go_at_call 15; with_reducible refine (HB _).out.mono ?_; rintro e W3 ⟨rfl, hb3⟩; have O3 := hide (O2.out.below hb3); have B3 := hide (be_call hb3 (by rw [HS.out]; exact B2.out.size) B2.out); obtain ⟨g3, e3, _, _, _, hcells⟩ := own_at O3.out (by rw [clr_len]; exact HN.out) (by have := HX.out; omega); cases e3; obtain ⟨⟨v0, v1, x0, x1⟩, fz⟩ := hcells x HX.out.2.2.2; clear hcells hb3)
            have ST := clr_step cs a x HX.out.1
            refine ⟨⟨x + 1, by have := HX.out; omega, by have := HX.out; omega, by rw [HWW.out]; simp, by rw [← ST]; exact Own.set_cell O3.out x blk, be_set (be_set B3.out (by have := HG.out; dsimp only; omega)) (by have := HG.out; dsimp only; omega)⟩, ?_⟩
            rw [HWW.out]; simp only [intOf]; have := HX.out; omega
          · have r1 : ((x : Int) < (n : Int)) = False := eq_false hlt
            have hxe : clr cs a x = clr cs a ((n : Int)).toNat := by
              rw [show x = max a ((n : Int)).toNat by omega]
              exact clr_up _ _ _
            rw [hxe] at O2
            clear hx1 hx2 hlt hxe
            go_wp2
            go_ret
            exact ⟨lb, cap, rfl, O2.out, B2.out⟩
      · obtain ⟨p1, rfl⟩ := h1 rfl
        clear h1 h2 hB2 hl
        go_enter Try.func8, Try.ntmps8
        go_wp2_with (go_at_call 13; refine (HC.out _ (be_refl _)).mono ?_; rintro e W1 ⟨lb, cap, rfl, hO, hB⟩; have O1 := hide hO; have B1 := hide hB; clear hO hB)
        go_loopw [8] (fun v8 wr => ∃ x : Nat, a ≤ x ∧ x ≤ max a (B).toNat ∧ v8 = .int .i64 (x : Int) ∧ Own wr S0 23 2 lb n cap (flat (clr cs a x)) ∧ Below S0 w wr) (fun v8 _ => ((B).toNat - (intOf v8).toNat))
        case atStart => exact ⟨a, Nat.le_refl _, Nat.le_max_left _ _, rfl, by rw [clr_self _ _ _ (Nat.le_refl _), HS.out]; exact O1.out, by rw [HS.out]; exact B1.out⟩
        case round =>
          obtain ⟨x, hx1, hx2, rfl, hO, hB⟩ := hrel
          have O2 := hide hO
          have B2 := hide hB
          clear hO hB
          by_cases hlt : (x : Int) < B
          · have r1 : ((x : Int) < B) = True := eq_true hlt
            have hxn : x < n := by have := HBN.out; omega
            obtain ⟨g, rfl, hg, hgs, hnc, _⟩ := own_at O2.out (by rw [clr_len]; exact HN.out) (by omega)
            have r2 : (0 : Int) ≤ (x : Int) := by omega
            have r3 : (x : Int) < (n : Int) := by omega
            have HX := hide (And.intro hx1 (And.intro hx2 (And.intro hlt hxn)))
            have HG := hide hg
            have HNC := hide hnc
            have hw : wrap64 ((x : Int) + 1) = (x : Int) + 1 := by have := HL.out; unfold wrap64; omega
            have HWW := hide hw
            clear hx1 hx2 hlt hxn hg hgs hnc hw
            simp only [sl_some]
            go_wp2_with (go_at_call 15; with_reducible refine (HB _).out.mono ?_; rintro e W3 ⟨rfl, hb3⟩; have O3 := hide (O2.out.below hb3); have B3 := hide (be_call hb3 (by rw [HS.out]; exact B2.out.size) B2.out); obtain ⟨g3, e3, _, _, _, hcells⟩ := own_at O3.out (by rw [clr_len]; exact HN.out) (by have := HX.out; omega); cases e3; obtain ⟨⟨v0, v1, x0, x1⟩, fz⟩ := hcells x HX.out.2.2.2; clear hcells hb3)
            have ST := clr_step cs a x HX.out.1
            refine ⟨⟨x + 1, by have := HX.out; omega, by have := HX.out; omega, by rw [HWW.out]; simp, by rw [← ST]; exact Own.set_cell O3.out x blk, be_set (be_set B3.out (by have := HG.out; dsimp only; omega)) (by have := HG.out; dsimp only; omega)⟩, ?_⟩
            rw [HWW.out]; simp only [intOf]; have := HX.out; omega
          · have r1 : ((x : Int) < B) = False := eq_false hlt
            have hxe : clr cs a x = clr cs a (B).toNat := by
              rw [show x = max a (B).toNat by omega]
              exact clr_up _ _ _
            rw [hxe] at O2
            clear hx1 hx2 hlt hxe
            go_wp2
            go_ret
            exact ⟨lb, cap, rfl, O2.out, B2.out⟩
  rcases hB2 with h | h
  · exact main true (fun _ => h) (fun e => by cases e)
  · exact main false (fun e => by cases e) (fun _ => h)
end Go.Proofs.Yteelcbjapbhogaa.RowsMore

