/- RowsOwn: rows that come of others are their own: turned, those that they came of are not: for any row, place and number, without a condition. -/
import Derived.Deep.QuietTactic
import Derived.Test.YteelcbjapbhogaaRowsArg
namespace Go.Proofs.Yteelcbjapbhogaa.RowsOwnW
open Go Go.RowKit Go.Proofs.YteelcbjapbhogaaKit Go.Proofs.Yteelcbjapbhogaa.Mem Go.Proofs.Yteelcbjapbhogaa.RowsBase Go.Proofs.Yteelcbjapbhogaa.RowsRep Go.Proofs.Yteelcbjapbhogaa.RowsOps Go.Proofs.Yteelcbjapbhogaa.RowsMore Go.Proofs.Yteelcbjapbhogaa.RowsIns Go.Proofs.Yteelcbjapbhogaa.RowsUse
attribute [local go_sem] cell_alloc_some cell_alloc2_some cell_alloc3_some cell_alloc4_some
set_option linter.unusedVariables false
set_option linter.unusedSimpArgs false
theorem rd_head {W : World} {lo : Nat} {oa : Option Addr} {cs : List C} (h : RdC W lo oa cs) (h0 : 0 < cs.length) : ∃ b o, oa = some ⟨b, o, none⟩ := by
  obtain ⟨a, e, _, x0, _⟩ := RdC.at_ h (List.getElem?_eq_getElem h0)
  obtain ⟨b, o, sp⟩ := a
  cases sp with
  | none => exact ⟨b, o, e⟩
  | some v =>
    rw [Nat.zero_mul] at x0
    unfold Addr.add at x0
    simp [World.cell?] at x0
    split at x0 <;> simp at x0
theorem rd_at {W : World} {lo b o : Nat} {cs : List C} (h : RdC W lo (some ⟨b, o, none⟩) cs) {i : Nat} {c : C} (hc : cs[i]? = some c) : W.cell? ⟨b, o + i * 2, none⟩ = some (.int .i32 c.1) ∧ W.cell? ⟨b, o + i * 2 + 1, none⟩ = some (.int .i64 c.2) := by
  obtain ⟨a, e, _, x0, x1⟩ := RdC.at_ h hc
  cases e
  rw [add_head'] at x0 x1
  exact ⟨x0, by rw [Nat.add_assoc]; exact x1⟩
theorem and255 (n : Int) : ∃ N : Nat, Go.bits .and .i64 n 255 = (N : Int) ∧ N ≤ 255 := by
  have h : 0 ≤ Go.bits .and .i64 n 255 ∧ Go.bits .and .i64 n 255 ≤ 255 := and_range 8 (by omega) n
  exact ⟨(Go.bits .and .i64 n 255).toNat, by omega, by omega⟩
theorem and7 (n : Int) : ∃ N : Nat, Go.bits .and .i64 n 7 = (N : Int) ∧ N ≤ 7 := by
  have h : 0 ≤ Go.bits .and .i64 n 7 ∧ Go.bits .and .i64 n 7 ≤ 7 := and_range 3 (by omega) n
  exact ⟨(Go.bits .and .i64 n 7).toNat, by omega, by omega⟩
theorem Own.set_attr {W : World} {base g n cap : Nat} {cs : List C} (h : Own W base 23 2 (some g) n cap (flat cs)) (i : Nat) (c : C) (hc : cs[i]? = some c) (a : Int) :
    Own (W.setCell ⟨g, i * 2 + 1, none⟩ (.int .i64 a)) base 23 2 (some g) n cap (flat (cs.set i (c.1, a))) := by
  have h2 := h.set (i := i * 2 + 1) (.int .i64 a)
  rw [← flat_set]
  obtain ⟨f1, _⟩ := flat_get cs i c hc
  rw [show (flat cs).set (i * 2) (.int .i32 (c.1, a).1) = flat cs from ?_]
  · exact h2
  · apply List.ext_getElem?
    intro j
    rw [List.getElem?_set]
    split
    · rename_i e; subst e
      split
      · exact f1.symm
      · rename_i hh; rw [List.getElem?_eq_none (by omega)]
    · rfl
/-- The five rows, from the k-th on as they came. -/
structure St (W1 W : World) (wb L : Nat) (G P : Nat → Nat) (X : Nat → List C) (k : Nat) : Prop where
  arr : ∀ i, i < 5 → W.cell? ⟨wb, i, none⟩ = some (.slice (some ⟨G i, 0, none⟩) L (P i))
  rows : ∀ i, k ≤ i → i < 5 → Own W W1.heap.size 23 2 (some (G i)) L (P i) (flat (X i))
  below : Below W1.heap.size W1 W
def five {α : Type} (d : α) (l : List α) (i : Nat) : α := l.getD i d
theorem St.next {W1 W W' : World} {wb L k : Nat} {G P : Nat → Nat} {X : Nat → List C} (h : St W1 W wb L G P X k) (hG : ∀ i j, i < j → j < 5 → G i < G j) (hwb : ∀ i, i < 5 → G i ≠ wb) (hge : ∀ i, i < 5 → W1.heap.size ≤ G i) (hk : k < 5)
    (hs : ∀ b, b < W.heap.size → b ≠ G k → W'.heap[b]? = W.heap[b]?) (hB : Below W1.heap.size W1 W') : St W1 W' wb L G P X (k + 1) := by
  refine ⟨fun i hi => ?_, fun i h1 h2 => ?_, hB⟩
  · have hc := h.arr i hi
    have hlt := World.block_lt_of_cell? W _ hc
    have := hs wb hlt (fun e => hwb k hk e.symm)
    unfold World.cell? at hc ⊢
    rw [this]; exact hc
  · exact (h.rows i (by omega) h2).keep fun b e hlt => hs b hlt (by cases e; have := hG k i (by omega) h2; omega)
set_option maxHeartbeats 16000000 in
set_option maxRecDepth 100000 in
theorem walkR (A : Option Addr) (L c : Nat) (cs : List C) (x0 n0 : Int) (w : World) (hn : cs.length = L) (hlc : L ≤ c) (hm : c ≤ maxLen) (hr : RdC w 0 A cs) (_ : (Lit.int .i64 x0).wf = true) (_ : (Lit.int .i64 n0).wf = true) :
    Calls Try.prog 4 #[.slice A L c, .int .i64 x0, .int .i64 n0] w fun e w' => e = .returned (.bool true) ∧ Below w.heap.size w w' := by
  unfold maxLen at hm
  by_cases hL : 200 < L ∨ L = 0
  · have hc : ((200 : Int) < (L : Int)) = True ∨ ((200 : Int) < (L : Int)) = False ∧ L = 0 := by
      by_cases h : 200 < L
      · exact .inl (eq_true (by omega))
      · exact .inr ⟨eq_false (by omega), by omega⟩
    clear hL hn hr
    rcases hc with p1 | ⟨p1, rfl⟩
    all_goals
      go_enter Try.func4, Try.ntmps4
      go_wp2_with (go_at_call 12; refine (awake_calls _).mono ?_; rintro e W4 ⟨rfl, hb4⟩)
      go_ret
      exact ⟨rfl, hb4⟩
  · obtain ⟨i0, hi, hz0, hz1, hz2⟩ := info_parts cellInfo
    obtain ⟨X, hX, hX5⟩ := and255 x0
    obtain ⟨N, hN, hN5⟩ := and7 n0
    have hL1 : (200 < (L : Int)) = False := eq_false (by omega)
    have hL2 : ((L : Int) = 0) = False := eq_false (by omega)
    have hLp : (1 : Int) ≤ (L : Int) := by omega
    have hLq : (L : Int) ≤ 200 := by omega
    obtain ⟨x, hx⟩ : ∃ x : Nat, (X : Int) % (L : Int) = (x : Int) := ⟨X % L, by simp⟩
    have hxL : x < L := by
      have := Int.emod_lt_of_pos (X : Int) (show (0 : Int) < L by omega)
      omega
    obtain ⟨ab, ao, rfl⟩ := rd_head hr (by omega)
    have HL := hide (show 0 < L ∧ L ≤ 200 ∧ L ≤ c by omega)
    have HN := hide hn
    have HR := hide hr
    have HX := hide (And.intro hxL hN5)
    clear hn hr hL hX5 hN5 hxL
    go_enter Try.func4, Try.ntmps4
    go_upto_region 5 with (at_builtin; refine wpList_append_rd _ rfl (.tmp 21) (.tmp 22) 24 rfl w.heap.size 23 i0 _ 2 16 Try.underlying24 hi hz0 hz1 hz2 rfl (by omega) (some w.heap.size) 0 0 [] rfl (Own.lit (bs_new rfl) (by simp) (Nat.le_refl _) (by unfold maxLen; omega)) (some ⟨ab, ao, none⟩) L c (flat cs) rfl (by rw [flat_len, HN.out]) (HR.out.below (be_alloc (be_refl _) (Nat.le_refl _))) (flat_one cs) (by have := HL.out; unfold maxLen; omega) (by have := HL.out; omega) (by simp) ?_; intro lb1 cap1 W1 hO hg hat; rw [Nat.zero_add, List.nil_append] at hO; have O1 := hide hO; have B1 := hide (below_grown (be_alloc (be_refl _) (Nat.le_refl _)) (by simp) hg (fun b e => by cases e; exact Nat.le_refl _)); rw [Nat.zero_add]; clear hO hg hat)
    rw [hx]
    obtain ⟨gw, rfl, hgw, hgs, hgc, _⟩ := own_at O1.out HN.out HL.out.1
    have GW := hide (And.intro hgw hgs)
    simp only [sl_some]
    have tx : (x : Int) ≤ 200 := by have := HX.out; omega
    have tn : (N : Int) ≤ 7 := by have := HX.out; omega
    clear hx hX hN hgw hgs hgc
    go_upto_region 6 with (first
      | (go_at_call 6; (with_reducible refine (u_insert W1 (some ⟨ab, ao, none⟩) L c cs HN.out HL.out.1 HL.out.2.2 (HR.out.below B1.out) (by have := HL.out; omega) _ _).mono ?_); rintro e W2 ⟨g2, k2, rfl, hg2, hk2, hO, hB⟩; have O2 := hide hO; have D2 := hide (And.intro hg2 (own_base hO).2); have B2 := hide hB; clear hO hB hk2 hg2)
      | (go_at_call 7; (with_reducible refine (u_delete W2 (some ⟨ab, ao, none⟩) L c cs HN.out HL.out.1 HL.out.2.2 ((HR.out.below B1.out).below B2.out) (by have := HL.out; omega) _ _).mono ?_); rintro e W3 ⟨g3, k3, rfl, hg3, hk3, hO, hB⟩; have O3 := hide hO; have D3 := hide (And.intro hg3 (own_base hO).2); have B3 := hide (be_call hB B2.out.size B2.out); have C2 := hide (O2.out.below hB); clear hO hB hk3 hg3)
      | (go_at_call 8; (with_reducible refine (u_clear W3 (some ⟨ab, ao, none⟩) L c cs HN.out HL.out.1 ((HR.out.below B1.out).below B3.out) (by have := HL.out; omega) _ _).mono ?_); rintro e W4 ⟨g4, k4, rfl, hg4, hk4, hO, hB⟩; have O4 := hide hO; have D4 := hide (And.intro hg4 (own_base hO).2); have B4 := hide (be_call hB B3.out.size B3.out); have E2 := hide (C2.out.below hB); have C3 := hide (O3.out.below hB); clear hO hB hk4 hg4)
      | (go_at_call 10; (with_reducible refine (u_put W4 (some ⟨ab, ao, none⟩) L c cs HN.out HL.out.1 ((HR.out.below B1.out).below B4.out) (by have := HL.out; omega) _ (0, 0)).mono ?_); rintro e W5 ⟨g5, k5, rfl, hg5, hk5, hO, hB⟩; have O5 := hide hO; have D5 := hide (And.intro hg5 (own_base hO).2); have B5 := hide (be_call hB B4.out.size B4.out); have F2 := hide (E2.out.below hB); have E3 := hide (C3.out.below hB); have C4 := hide (O4.out.below hB); clear hO hB hk5 hg5)
      | (go_at_call 9; (with_reducible refine (u_fit W5 (some ⟨ab, ao, none⟩) L c cs HN.out ((HR.out.below B1.out).below B5.out) (L : Int) L (by have := HL.out; unfold wid; omega) HL.out.1).mono ?_); rintro e W6 ⟨g6, k6, rfl, hg6, hk6, hO, hB⟩; have O6 := hide hO; have D6 := hide (And.intro hg6 (own_base hO).2); have B6 := hide (be_call hB B5.out.size B5.out); have G2 := hide (F2.out.below hB); have F3 := hide (E3.out.below hB); have E4 := hide (C4.out.below hB); have C5 := hide (O5.out.below hB); clear hO hB hk6 hg6))
    obtain ⟨wb, hwb⟩ : ∃ wb, wb = W6.heap.size := ⟨_, rfl⟩
    rw [← hwb]
    obtain ⟨G, hG⟩ : ∃ G, G = five 0 [g2, g3, g4, g5, g6] := ⟨_, rfl⟩
    obtain ⟨P, hP⟩ : ∃ P, P = five 0 [k2, k3, k4, k5, k6] := ⟨_, rfl⟩
    obtain ⟨Z, hZ⟩ : ∃ Z, Z = five [] [RowsIns.insert cs (x : Int) (N : Int), delete cs (x : Int) (N : Int), clr cs (max (x : Int) 0).toNat (min ((x : Int) + (N : Int)) (L : Int)).toNat, put cs (x : Int) (0, 0), fit cs L] := ⟨_, rfl⟩
    have d2 := D2.out
    have d3 := D3.out
    have d4 := D4.out
    have d5 := D5.out
    have d6 := D6.out
    have ZL := hide (show ∀ i, i < 5 → (Z i).length = L by
      intro i hi
      rw [hZ]
      have hc : i = 0 ∨ i = 1 ∨ i = 2 ∨ i = 3 ∨ i = 4 := by omega
      rcases hc with rfl | rfl | rfl | rfl | rfl
      · show (RowsIns.insert cs _ _).length = L; rw [insert_len]; exact HN.out
      · show (delete cs _ _).length = L; rw [delete_len]; exact HN.out
      · show (clr cs _ _).length = L; rw [clr_len]; exact HN.out
      · show (put cs _ _).length = L; rw [put_len]; exact HN.out
      · show (fit cs L).length = L; exact fit_len _ _)
    have GI := hide (show ∀ i j, i < j → j < 5 → G i < G j by
      intro i j h1 h2
      rw [hG]
      have hc : (i = 0 ∧ j = 1) ∨ (i = 0 ∧ j = 2) ∨ (i = 0 ∧ j = 3) ∨ (i = 0 ∧ j = 4) ∨ (i = 1 ∧ j = 2) ∨ (i = 1 ∧ j = 3) ∨ (i = 1 ∧ j = 4) ∨ (i = 2 ∧ j = 3) ∨ (i = 2 ∧ j = 4) ∨ (i = 3 ∧ j = 4) := by omega
      rcases hc with ⟨rfl, rfl⟩ | ⟨rfl, rfl⟩ | ⟨rfl, rfl⟩ | ⟨rfl, rfl⟩ | ⟨rfl, rfl⟩ | ⟨rfl, rfl⟩ | ⟨rfl, rfl⟩ | ⟨rfl, rfl⟩ | ⟨rfl, rfl⟩ | ⟨rfl, rfl⟩
      · show g2 < g3; omega
      · show g2 < g4; omega
      · show g2 < g5; omega
      · show g2 < g6; omega
      · show g3 < g4; omega
      · show g3 < g5; omega
      · show g3 < g6; omega
      · show g4 < g5; omega
      · show g4 < g6; omega
      · show g5 < g6; omega)
    have GB := hide (show ∀ i, i < 5 → W1.heap.size ≤ G i ∧ G i < wb by
      intro i hi
      rw [hG, hwb]
      have hc : i = 0 ∨ i = 1 ∨ i = 2 ∨ i = 3 ∨ i = 4 := by omega
      rcases hc with rfl | rfl | rfl | rfl | rfl
      · show _ ≤ g2 ∧ g2 < _; omega
      · show _ ≤ g3 ∧ g3 < _; omega
      · show _ ≤ g4 ∧ g4 < _; omega
      · show _ ≤ g5 ∧ g5 < _; omega
      · show _ ≤ g6 ∧ g6 < _; omega)
    have LT := hide (show W1.heap.size ≤ W2.heap.size ∧ W2.heap.size ≤ W3.heap.size ∧ W3.heap.size ≤ W4.heap.size ∧ W4.heap.size ≤ W5.heap.size by omega)
    have ST := hide (show St W1 (W6.alloc (.cells #[.slice (some ⟨g2, 0, none⟩) L k2, .slice (some ⟨g3, 0, none⟩) L k3, .slice (some ⟨g4, 0, none⟩) L k4, .slice (some ⟨g5, 0, none⟩) L k5, .slice (some ⟨g6, 0, none⟩) L k6] 24)) wb L G P Z 0 by
      have hb := bs_new (w := W6) (o := .cells #[.slice (some ⟨g2, 0, none⟩) L k2, .slice (some ⟨g3, 0, none⟩) L k3, .slice (some ⟨g4, 0, none⟩) L k4, .slice (some ⟨g5, 0, none⟩) L k5, .slice (some ⟨g6, 0, none⟩) L k6] 24) hwb
      have lt := LT.out
      refine ⟨fun i hi => ?_, fun i _ hi => ?_, be_alloc B6.out B6.out.size⟩
      · rw [bs_cell hb, hG, hP]
        have hc : i = 0 ∨ i = 1 ∨ i = 2 ∨ i = 3 ∨ i = 4 := by omega
        rcases hc with rfl | rfl | rfl | rfl | rfl <;> rfl
      · rw [hG, hP, hZ]
        have hc : i = 0 ∨ i = 1 ∨ i = 2 ∨ i = 3 ∨ i = 4 := by omega
        rcases hc with rfl | rfl | rfl | rfl | rfl
        · exact G2.out.alloc _
        · exact (F3.out.alloc _).lower (by omega)
        · exact (E4.out.alloc _).lower (by omega)
        · exact (C5.out.alloc _).lower (by omega)
        · exact (O6.out.alloc _).lower (by omega))
    clear hG hP hZ hwb d2 d3 d4 d5 d6
    generalize W6.alloc (.cells #[.slice (some ⟨g2, 0, none⟩) L k2, .slice (some ⟨g3, 0, none⟩) L k3, .slice (some ⟨g4, 0, none⟩) L k4, .slice (some ⟨g5, 0, none⟩) L k5, .slice (some ⟨g6, 0, none⟩) L k6] 24) = W7 at *
    go_loopw [55] (fun v55 wr => ∃ k : Nat, k ≤ 5 ∧ v55 = .int .i64 (k : Int) ∧ St W1 wr wb L G P Z k) (fun v55 _ => (5 - intOf v55).toNat)
    case atStart => exact ⟨0, by omega, rfl, ST.out⟩
    case round =>
      obtain ⟨k, hk, rfl, hS⟩ := hrel
      have S := hide hS
      clear hS
      by_cases hk5 : k < 5
      · have p1 : ((k : Int) < 5) = True := eq_true (by omega)
        have p0 : (0 : Int) ≤ (k : Int) := by omega
        have HK := hide hk5
        have xk := S.out.arr k hk5
        have OK := hide (S.out.rows k (Nat.le_refl _) hk5)
        have GK := hide (GB.out k hk5)
        have ZK := hide (ZL.out k hk5)
        obtain ⟨gk, hgk⟩ : ∃ gk, gk = G k := ⟨_, rfl⟩
        obtain ⟨pk, hpk⟩ : ∃ pk, pk = P k := ⟨_, rfl⟩
        rw [← hgk] at GK
        rw [← hgk, ← hpk] at xk OK
        have HGK := hide hgk
        clear hgk hpk hk hk5
        go_wp2
        go_loopw [61] (fun v61 wq => ∃ j : Nat, ∃ xs : List C, j ≤ L ∧ v61 = .int .i64 (j : Int) ∧ xs.length = L ∧ Own wq W1.heap.size 23 2 (some gk) L pk (flat xs) ∧ (∀ b, b < wr.heap.size → b ≠ gk → wq.heap[b]? = wr.heap[b]?) ∧ wr.heap.size ≤ wq.heap.size ∧ Below W1.heap.size W1 wq) (fun v61 _ => (L - intOf v61).toNat)
        case atStart => exact ⟨0, Z k, Nat.zero_le _, rfl, ZK.out, OK.out, fun _ _ _ => rfl, Nat.le_refl _, S.out.below⟩
        case round =>
          obtain ⟨j, xs, hj, rfl, hxl, hO, hf, hs, hB⟩ := hrel
          have OQ := hide hO
          have XL := hide hxl
          have FQ := hide (And.intro hf (And.intro hs hB))
          by_cases hjl : j < L
          · have r1 : ((j : Int) < (L : Int)) = True := eq_true (by omega)
            have r0 : (0 : Int) ≤ (j : Int) := by omega
            have r2 : (j : Int) < (L : Int) := by omega
            obtain ⟨⟨c1, c2⟩, hc⟩ : ∃ e, xs[j]? = some e := ⟨_, List.getElem?_eq_getElem (by omega)⟩
            obtain ⟨_, x1⟩ := own_get hO j _ hc
            obtain ⟨cur, hcur⟩ := own_type hO
            have fz := bs_frozen hcur
            have HC := hide hc
            have HJ := hide hjl
            clear hf hs hB hc hO hxl hjl hj hcur
            go_wp2
            have f := FQ.out
            refine ⟨⟨j + 1, _, by have := HJ.out; omega, by simp, by rw [List.length_set]; exact XL.out, Own.set_attr OQ.out j (c1, c2) HC.out _, fun b hb hne => (Below.heap_setCell _ _ _ b (by dsimp only; exact hne)).trans (f.1 b hb hne), by rw [World.size_setCell]; exact f.2.1, be_set f.2.2 (by have := GK.out; dsimp only; omega)⟩, ?_⟩
            simp only [intOf]; have := HJ.out; omega
          · have r1 : ((j : Int) < (L : Int)) = False := eq_false (by omega)
            have HWk := hide (show wrap64 ((k : Int) + 1) = (k : Int) + 1 by have := HK.out; unfold wrap64; omega)
            clear hf hs hB hO hxl hjl hj
            go_wp2_with (at_builtin; (refine wpList_append_rd _ rfl (.tmp 75) (.tmp 77) 24 rfl W1.heap.size 23 i0 _ 2 16 Try.underlying24 hi hz0 hz1 hz2 rfl (by omega) (some gk) L pk (flat xs) rfl (OQ.out.alloc _) (some ⟨wr.heap.size, 0, none⟩) 1 1 (flat [(33, 0)]) rfl rfl (rd_lit (bs_new rfl)) (flat_one _) (by have := HL.out; unfold maxLen; omega) (by have := HL.out; omega) (by have := FQ.out.2.2.size; simp; omega) ?_); intro lb8 cap8 W8 hO8 hg8 hat8; have G8 := hide hg8; clear hO8 hg8 hat8)
            have f := FQ.out
            refine ⟨⟨k + 1, by have := HK.out; omega, by rw [HWk.out]; simp, ?_⟩, ?_⟩
            · refine St.next S.out GI.out (fun i hi => by have := GB.out i hi; omega) (fun i hi => (GB.out i hi).1) HK.out (fun b hb hne => ?_) (below_grown (be_alloc f.2.2 f.2.2.size) (by have := f.2.2.size; simp; omega) G8.out (fun b e => by cases e; exact GK.out.1))
              rw [← HGK.out] at hne
              exact (G8.out.block b (by have := f.2.1; simp; omega) (fun e => hne (Option.some.inj e))).trans ((Below.heap_alloc _ _ b (by have := f.2.1; omega)).trans (f.1 b hb hne))
            · rw [HWk.out]; simp only [intOf]; have := HK.out; omega
      · have p1 : ((k : Int) < 5) = False := eq_false (by omega)
        have BS := hide S.out.below
        clear hk hk5
        go_wp2
        go_loopw [82] (fun v82 wq => ∃ j : Nat, j ≤ L ∧ v82 = .int .i64 (j : Int) ∧ Below W1.heap.size W1 wq) (fun v82 _ => (L - intOf v82).toNat)
        case atStart => exact ⟨0, Nat.zero_le _, rfl, BS.out⟩
        case round =>
          obtain ⟨j, hj, rfl, hB⟩ := hrel
          have BQ := hide hB
          by_cases hjl : j < L
          · have r1 : ((j : Int) < (L : Int)) = True := eq_true (by omega)
            have r0 : (0 : Int) ≤ (j : Int) := by omega
            have r2 : (j : Int) < (L : Int) := by omega
            obtain ⟨⟨c1, c2⟩, hc⟩ : ∃ e, cs[j]? = some e := ⟨_, List.getElem?_eq_getElem (by have := HN.out; omega)⟩
            obtain ⟨y0, y1⟩ := own_get (O1.out.below hB) j _ hc
            obtain ⟨x0, x1⟩ := rd_at (HR.out.below (be_call hB B1.out.size B1.out)) hc
            have hne := fun (w : World) (a b c d : Int) => cell_neq w (a, b) (c, d)
            have HJ := hide hjl
            clear hB hc hjl hj
            go_upto_region 18 with fail
            go_quiet (fail)
            go_wp2
            refine ⟨⟨j + 1, by have := HJ.out; omega, by simp, be_drewN BQ.out⟩, ?_⟩
            simp only [intOf]; have := HJ.out; omega
          · have r1 : ((j : Int) < (L : Int)) = False := eq_false (by omega)
            clear hB hjl hj
            go_wp2_with (go_at_call 12; refine (awake_calls _).mono ?_; rintro e W9 ⟨rfl, hb9⟩)
            go_ret
            have B7 := be_call BQ.out B1.out.size B1.out
            exact ⟨rfl, be_call hb9 B7.size B7⟩
end Go.Proofs.Yteelcbjapbhogaa.RowsOwnW

