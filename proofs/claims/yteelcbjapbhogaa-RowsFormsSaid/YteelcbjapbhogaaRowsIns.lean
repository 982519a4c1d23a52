/- Rows of cells: Insert and Delete: contracts, without a condition of their own. -/
import Derived.Test.YteelcbjapbhogaaRowsMore
namespace Go.Proofs.Yteelcbjapbhogaa.RowsIns
open Go Go.RowKit Go.Proofs.YteelcbjapbhogaaKit Go.Proofs.Yteelcbjapbhogaa.Mem Go.Proofs.Yteelcbjapbhogaa.RowsBase Go.Proofs.Yteelcbjapbhogaa.RowsRep Go.Proofs.Yteelcbjapbhogaa.RowsOps Go.Proofs.Yteelcbjapbhogaa.RowsMore
attribute [local go_sem] cell_alloc_some cell_alloc2_some cell_alloc3_some cell_alloc4_some
set_option linter.unusedVariables false
set_option linter.unusedSimpArgs false
def ins (cs : List C) (x n : Nat) : List C := clr (splice cs (x + n) ((cs.drop x).take (cs.length - (x + n)))) x (x + n)
def del (cs : List C) (x n : Nat) : List C := clr (splice cs x (cs.drop (x + n))) (cs.length - n) cs.length
/-- How many go: as many as there are from x on, at most. -/
def many (n : Int) (l x : Nat) : Nat := (min (max n 0) ((l : Int) - x)).toNat
def insert (cs : List C) (x n : Int) : List C := if 0 ≤ x ∧ x < cs.length then ins cs x.toNat (many n cs.length x.toNat) else cs
def delete (cs : List C) (x n : Int) : List C := if 0 ≤ x ∧ x < cs.length then del cs x.toNat (many n cs.length x.toNat) else cs
theorem many_le (n : Int) (l x : Nat) (h : x < l) : x + many n l x ≤ l := by unfold many; omega
theorem many_cases (n : Int) (l x : Nat) (h : x < l) : ((n < 0) = True ∧ many n l x = 0) ∨ ((n < 0) = False ∧ (((l : Int) - (x : Int) < n) = True) ∧ (l : Int) - (x : Int) = (many n l x : Int)) ∨ ((n < 0) = False ∧ (((l : Int) - (x : Int) < n) = False) ∧ n = (many n l x : Int)) := by
  unfold many
  by_cases h0 : n < 0
  · exact .inl ⟨eq_true h0, by omega⟩
  · by_cases h1 : (l : Int) - (x : Int) < n
    · exact .inr (.inl ⟨eq_false h0, eq_true h1, by omega⟩)
    · exact .inr (.inr ⟨eq_false h0, eq_false h1, by omega⟩)
set_option maxHeartbeats 16000000 in
set_option maxRecDepth 100000 in
theorem insert_row (w : World) (oa : Option Addr) (L k : Nat) (cs : List C) (hn : cs.length = L) (hk : L ≤ k) (hr : RdC w 0 oa cs) (hl : L ≤ 1000000000) (x0 n : Int) :
    Calls Try.prog 6 #[.slice oa L k, .int .i64 x0, .int .i64 n] w fun e w' => ∃ lb cap, e = .returned (sl lb L cap) ∧ Own w' w.heap.size 23 2 lb L cap (flat (insert cs x0 n)) ∧ Below w.heap.size w w' := by
  have HC := hide (show ∀ W, Below w.heap.size w W → Calls Try.prog 13 #[.slice oa L k] W fun e w' => ∃ lb cap, e = .returned (sl lb L cap) ∧ Own w' W.heap.size 23 2 lb L cap (flat cs) ∧ Below W.heap.size W w' from fun W hB => clone_calls W oa L k cs hn (hr.below hB) hl)
  have HI := fun W => hide (in_calls W oa L k x0)
  have HN := hide hn
  have HR := hide hr
  obtain ⟨S0, hS⟩ : ∃ S0, S0 = w.heap.size := ⟨_, rfl⟩
  have HS := hide hS
  rw [← hS]
  clear hS
  by_cases hin : 0 ≤ x0 ∧ x0 < (L : Int)
  · have hd : (decide (0 ≤ x0) && decide (x0 < (L : Int))) = true := by simp; exact hin
    rw [hd] at HI
    obtain ⟨x, rfl⟩ : ∃ x : Nat, x0 = (x : Int) := ⟨x0.toNat, by omega⟩
    have hx : x < L := by omega
    have HP := hide (show insert cs (x : Int) n = ins cs x (many n L x) by unfold insert; rw [if_pos (by rw [hn]; exact hin), Int.toNat_natCast, hn])
    have hc := many_cases n L x hx
    have hm := many_le n L x hx
    generalize many n L x = N at *
    obtain ⟨ad, rfl⟩ : ∃ ad, oa = some ad := by
      obtain ⟨a, h, _⟩ := RdC.at_ hr (List.getElem?_eq_getElem (show 0 < cs.length by omega))
      exact ⟨a, h⟩
    have D1 := hide (show (flat ((cs.drop x).take (L - (x + N)))).length = Nat.min (L - (x)) (L - (x + N)) * 2 by
      rw [flat_len]
      show _ = min (L - (x)) (L - (x + N)) * 2
      simp [hn]
      try omega)
    have D2 := hide (show ∀ W, Below S0 w W → Rd W 0 (if k = x then some ad else some (ad.add ((x) * 2))) (flat ((cs.drop x).take (L - (x + N)))) by
      intro W hB
      rw [HS.out] at hB
      by_cases he : (flat ((cs.drop x).take (L - (x + N)))).length = 0
      · rw [List.eq_nil_of_length_eq_zero he]; exact Rd.nil _ _ _
      · rw [flat_len] at he
        rw [if_neg (by simp [hn] at he; omega)]
        refine (hr.below hB).sub fun j v hv => ?_
        rw [← List.getElem?_drop, flat_drop]
        rw [← flat_take, List.getElem?_take] at hv
        split at hv
        · exact hv
        · cases hv)
    have D3 := hide (show (x + N) * 2 + (flat ((cs.drop x).take (L - (x + N)))).length ≤ (flat cs).length by rw [flat_len, flat_len]; simp [hn]; omega)
    have D4 := hide (show splice (flat cs) ((x + N) * 2) (flat ((cs.drop x).take (L - (x + N)))) = flat (splice cs (x + N) ((cs.drop x).take (L - (x + N)))) from flat_splice _ _ _)
    have D5 := hide (show (splice cs (x + N) ((cs.drop x).take (L - (x + N)))).length = L by rw [length_splice _ _ _ (by simp [hn]; omega)]; exact hn)
    have D6 := hide (show clr (splice cs (x + N) ((cs.drop x).take (L - (x + N)))) (max ((x : Int)) 0).toNat (min ((x : Int) + (N : Int)) (L : Int)).toNat = ins cs x N by
      unfold ins
      rw [hn]
      congr 1 <;> omega)
    have HL := hide hl
    have hsub : (L : Int) - (x : Int) ≤ L := by omega
    have w1 : IntKind.i64.wrap ((x : Int) + (N : Int)) = (x : Int) + (N : Int) := by rw [IntKind.wrap_i64]; omega
    have wx : IntKind.i64.wrap (x : Int) = (x : Int) := by rw [IntKind.wrap_i64]; omega
    have w2 : ((x : Int) + (N : Int)).toNat = x + N := by omega
    have w3 : (0 : Int) ≤ (x : Int) + (N : Int) := by omega
    have w4 : (x : Int) + (N : Int) ≤ (L : Int) := by omega
    have w5 : (0 : Int) ≤ (x : Int) := by omega
    have w6 : (x : Int) ≤ (L : Int) := by omega
    have w7 : (L : Int) ≤ (k : Int) := by omega
    clear hd hn hr hin
    rcases hc with ⟨q0, rfl⟩ | ⟨q0, q1, q2⟩ | ⟨q0, q1, rfl⟩
    · skip
      go_enter Try.func6, Try.ntmps6
      go_upto_region 5 with (first
        | (go_at_call 13; refine (HC.out _ (be_refl _)).mono ?_; rintro e W1 ⟨lb, cap, rfl, hO, hB⟩; rw [← HS.out] at hO hB; have O1 := hide hO; have B1 := hide hB; clear hO hB)
        | (go_at_call 14; with_reducible refine (HI _).out.mono ?_; rintro e v ⟨rfl, hv⟩; subst v))
      obtain ⟨g, rfl, hg, hgs, hnc, _⟩ := own_at O1.out HN.out (by omega)
      have HG := hide (And.intro hg hgs)
      have HD := hide (show 0 < (flat ((cs.drop x).take (L - (x + 0)))).length → ¬ cap = x by intro h; rw [D1.out] at h; intro e; have h2 : Nat.min (L - (x)) (L - (x)) ≤ L - (x) := Nat.min_le_right _ _; (try simp only [Nat.add_zero] at h h2); omega)
      have w8 : (L : Int) ≤ (cap : Int) := by omega
      have HNC := hide hnc
      clear hg hgs hnc
      simp only [sl_some]
      go_region_law ((refine step_copy_rd _ (by rfl) (.tmp 26) (.tmp 29) 24 24 (by rfl) S0 23 2 Try.underlying24 cellSize (by omega) (some g) L cap (flat cs) O1.out.drew (if cap = x then some ⟨g, 0, none⟩ else some ⟨g, (x) * 2, none⟩) ((x + 0) * 2) (L - (x)) (cap - (x)) (if k = x then some ad else some (ad.add ((x) * 2))) (L - (x)) (k - (x)) (by first | with_reducible rfl | (simp only [Act.eval, Act.put]; done) | (simp [Act.eval, Act.put]; done) | rfl) (by first | with_reducible rfl | (simp only [Act.eval, Act.put]; done) | (simp [Act.eval, Act.put]; done) | rfl) (flat ((cs.drop x).take (L - (x + 0)))) D1.out (fun h => ⟨g, rfl, if_neg (HD.out h)⟩) (D2.out _ (be_drew B1.out)) D3.out (flat_one _) ?_; intro W3 hO3 hG3; rw [D4.out] at hO3; have O3 := hide hO3; have B3 := hide (below_grown (be_drew B1.out) (by have := HG.out; simp; omega) hG3 (fun b e => by cases e; exact HG.out.1)); clear hO3 hG3))
      all_goals go_wp2_with (go_at_call 8; refine (clear_row W3 (some ⟨g, 0, none⟩) L cap (splice cs (x + 0) ((cs.drop x).take (L - (x + 0)))) D5.out ((Rd.of O3.out).lower (Nat.zero_le _)) HL.out ((x : Int)) ((x : Int) + (((0 : Nat) : Int) : Int))).mono ?_; rintro e W4 ⟨lb4, cap4, rfl, hO4, hB4⟩; have O4 := hide hO4; have B4 := hide hB4; clear hO4 hB4)
      all_goals go_ret
      all_goals exact ⟨lb4, cap4, rfl, by rw [HP.out, ← D6.out]; exact O4.out.lower (by have := B3.out.size; rw [HS.out]; exact this), be_call B4.out (by have := B3.out.size; rw [HS.out]; exact this) B3.out⟩
    · have q3 : ((N : Int) < n) = True := by rw [← q2]; exact q1
      go_enter Try.func6, Try.ntmps6
      go_upto_region 5 with (first
        | (go_at_call 13; refine (HC.out _ (be_refl _)).mono ?_; rintro e W1 ⟨lb, cap, rfl, hO, hB⟩; rw [← HS.out] at hO hB; have O1 := hide hO; have B1 := hide hB; clear hO hB)
        | (go_at_call 14; with_reducible refine (HI _).out.mono ?_; rintro e v ⟨rfl, hv⟩; subst v))
      obtain ⟨g, rfl, hg, hgs, hnc, _⟩ := own_at O1.out HN.out (by omega)
      have HG := hide (And.intro hg hgs)
      have HD := hide (show 0 < (flat ((cs.drop x).take (L - (x + N)))).length → ¬ cap = x + N by intro h; rw [D1.out] at h; intro e; have h2 : Nat.min (L - (x)) (L - (x + N)) ≤ L - (x + N) := Nat.min_le_right _ _; (try simp only [Nat.add_zero] at h h2); omega)
      have w8 : (L : Int) ≤ (cap : Int) := by omega
      have HNC := hide hnc
      clear hg hgs hnc
      simp only [sl_some]
      go_region_law ((refine step_copy_rd _ (by rfl) (.tmp 26) (.tmp 29) 24 24 (by rfl) S0 23 2 Try.underlying24 cellSize (by omega) (some g) L cap (flat cs) O1.out.drew (if cap = x + N then some ⟨g, 0, none⟩ else some ⟨g, (x + N) * 2, none⟩) ((x + N) * 2) (L - (x + N)) (cap - (x + N)) (if k = x then some ad else some (ad.add ((x) * 2))) (L - (x)) (k - (x)) (by first | with_reducible rfl | (simp only [Act.eval, Act.put]; done) | (simp [Act.eval, Act.put]; done) | rfl) (by first | with_reducible rfl | (simp only [Act.eval, Act.put]; done) | (simp [Act.eval, Act.put]; done) | rfl) (flat ((cs.drop x).take (L - (x + N)))) D1.out (fun h => ⟨g, rfl, if_neg (HD.out h)⟩) (D2.out _ (be_drew B1.out)) D3.out (flat_one _) ?_; intro W3 hO3 hG3; rw [D4.out] at hO3; have O3 := hide hO3; have B3 := hide (below_grown (be_drew B1.out) (by have := HG.out; simp; omega) hG3 (fun b e => by cases e; exact HG.out.1)); clear hO3 hG3))
      all_goals go_wp2_with (go_at_call 8; refine (clear_row W3 (some ⟨g, 0, none⟩) L cap (splice cs (x + N) ((cs.drop x).take (L - (x + N)))) D5.out ((Rd.of O3.out).lower (Nat.zero_le _)) HL.out ((x : Int)) ((x : Int) + (N : Int))).mono ?_; rintro e W4 ⟨lb4, cap4, rfl, hO4, hB4⟩; have O4 := hide hO4; have B4 := hide hB4; clear hO4 hB4)
      all_goals go_ret
      all_goals exact ⟨lb4, cap4, rfl, by rw [HP.out, ← D6.out]; exact O4.out.lower (by have := B3.out.size; rw [HS.out]; exact this), be_call B4.out (by have := B3.out.size; rw [HS.out]; exact this) B3.out⟩
    · skip
      go_enter Try.func6, Try.ntmps6
      go_upto_region 5 with (first
        | (go_at_call 13; refine (HC.out _ (be_refl _)).mono ?_; rintro e W1 ⟨lb, cap, rfl, hO, hB⟩; rw [← HS.out] at hO hB; have O1 := hide hO; have B1 := hide hB; clear hO hB)
        | (go_at_call 14; with_reducible refine (HI _).out.mono ?_; rintro e v ⟨rfl, hv⟩; subst v))
      obtain ⟨g, rfl, hg, hgs, hnc, _⟩ := own_at O1.out HN.out (by omega)
      have HG := hide (And.intro hg hgs)
      have HD := hide (show 0 < (flat ((cs.drop x).take (L - (x + N)))).length → ¬ cap = x + N by intro h; rw [D1.out] at h; intro e; have h2 : Nat.min (L - (x)) (L - (x + N)) ≤ L - (x + N) := Nat.min_le_right _ _; (try simp only [Nat.add_zero] at h h2); omega)
      have w8 : (L : Int) ≤ (cap : Int) := by omega
      have HNC := hide hnc
      clear hg hgs hnc
      simp only [sl_some]
      go_region_law ((refine step_copy_rd _ (by rfl) (.tmp 26) (.tmp 29) 24 24 (by rfl) S0 23 2 Try.underlying24 cellSize (by omega) (some g) L cap (flat cs) O1.out.drew (if cap = x + N then some ⟨g, 0, none⟩ else some ⟨g, (x + N) * 2, none⟩) ((x + N) * 2) (L - (x + N)) (cap - (x + N)) (if k = x then some ad else some (ad.add ((x) * 2))) (L - (x)) (k - (x)) (by first | with_reducible rfl | (simp only [Act.eval, Act.put]; done) | (simp [Act.eval, Act.put]; done) | rfl) (by first | with_reducible rfl | (simp only [Act.eval, Act.put]; done) | (simp [Act.eval, Act.put]; done) | rfl) (flat ((cs.drop x).take (L - (x + N)))) D1.out (fun h => ⟨g, rfl, if_neg (HD.out h)⟩) (D2.out _ (be_drew B1.out)) D3.out (flat_one _) ?_; intro W3 hO3 hG3; rw [D4.out] at hO3; have O3 := hide hO3; have B3 := hide (below_grown (be_drew B1.out) (by have := HG.out; simp; omega) hG3 (fun b e => by cases e; exact HG.out.1)); clear hO3 hG3))
      all_goals go_wp2_with (go_at_call 8; refine (clear_row W3 (some ⟨g, 0, none⟩) L cap (splice cs (x + N) ((cs.drop x).take (L - (x + N)))) D5.out ((Rd.of O3.out).lower (Nat.zero_le _)) HL.out ((x : Int)) ((x : Int) + (N : Int))).mono ?_; rintro e W4 ⟨lb4, cap4, rfl, hO4, hB4⟩; have O4 := hide hO4; have B4 := hide hB4; clear hO4 hB4)
      all_goals go_ret
      all_goals exact ⟨lb4, cap4, rfl, by rw [HP.out, ← D6.out]; exact O4.out.lower (by have := B3.out.size; rw [HS.out]; exact this), be_call B4.out (by have := B3.out.size; rw [HS.out]; exact this) B3.out⟩
  · have hd : (decide (0 ≤ x0) && decide (x0 < (L : Int))) = false := by simp; omega
    rw [hd] at HI
    have HP := hide (show insert cs x0 n = cs by unfold insert; rw [if_neg (by rw [hn]; exact hin)])
    clear hd hn hr hl hin
    go_enter Try.func6, Try.ntmps6
    go_wp2_with (first
      | (go_at_call 13; refine (HC.out _ (be_refl _)).mono ?_; rintro e W1 ⟨lb, cap, rfl, hO, hB⟩; rw [← HS.out] at hO hB; have O1 := hide hO; have B1 := hide hB; clear hO hB)
      | (go_at_call 14; with_reducible refine (HI _).out.mono ?_; rintro e v ⟨rfl, hv⟩; subst v))
    go_ret
    exact ⟨lb, cap, rfl, by rw [HP.out]; exact O1.out, B1.out⟩
set_option maxHeartbeats 16000000 in
set_option maxRecDepth 100000 in
theorem delete_row (w : World) (oa : Option Addr) (L k : Nat) (cs : List C) (hn : cs.length = L) (hk : L ≤ k) (hr : RdC w 0 oa cs) (hl : L ≤ 1000000000) (x0 n : Int) :
    Calls Try.prog 7 #[.slice oa L k, .int .i64 x0, .int .i64 n] w fun e w' => ∃ lb cap, e = .returned (sl lb L cap) ∧ Own w' w.heap.size 23 2 lb L cap (flat (delete cs x0 n)) ∧ Below w.heap.size w w' := by
  have HC := hide (show ∀ W, Below w.heap.size w W → Calls Try.prog 13 #[.slice oa L k] W fun e w' => ∃ lb cap, e = .returned (sl lb L cap) ∧ Own w' W.heap.size 23 2 lb L cap (flat cs) ∧ Below W.heap.size W w' from fun W hB => clone_calls W oa L k cs hn (hr.below hB) hl)
  have HI := fun W => hide (in_calls W oa L k x0)
  have HN := hide hn
  have HR := hide hr
  obtain ⟨S0, hS⟩ : ∃ S0, S0 = w.heap.size := ⟨_, rfl⟩
  have HS := hide hS
  rw [← hS]
  clear hS
  by_cases hin : 0 ≤ x0 ∧ x0 < (L : Int)
  · have hd : (decide (0 ≤ x0) && decide (x0 < (L : Int))) = true := by simp; exact hin
    rw [hd] at HI
    obtain ⟨x, rfl⟩ : ∃ x : Nat, x0 = (x : Int) := ⟨x0.toNat, by omega⟩
    have hx : x < L := by omega
    have HP := hide (show delete cs (x : Int) n = del cs x (many n L x) by unfold delete; rw [if_pos (by rw [hn]; exact hin), Int.toNat_natCast, hn])
    have hc := many_cases n L x hx
    have hm := many_le n L x hx
    generalize many n L x = N at *
    obtain ⟨ad, rfl⟩ : ∃ ad, oa = some ad := by
      obtain ⟨a, h, _⟩ := RdC.at_ hr (List.getElem?_eq_getElem (show 0 < cs.length by omega))
      exact ⟨a, h⟩
    have D1 := hide (show (flat (cs.drop (x + N))).length = Nat.min (L - (x + N)) (L - (x)) * 2 by
      rw [flat_len]
      show _ = min (L - (x + N)) (L - (x)) * 2
      simp [hn]
      try omega)
    have D2 := hide (show ∀ W, Below S0 w W → Rd W 0 (if k = x + N then some ad else some (ad.add ((x + N) * 2))) (flat (cs.drop (x + N))) by
      intro W hB
      rw [HS.out] at hB
      by_cases he : (flat (cs.drop (x + N))).length = 0
      · rw [List.eq_nil_of_length_eq_zero he]; exact Rd.nil _ _ _
      · rw [flat_len] at he
        rw [if_neg (by simp [hn] at he; omega)]
        refine (hr.below hB).sub fun j v hv => ?_
        rw [← List.getElem?_drop, flat_drop]
        exact hv)
    have D3 := hide (show (x) * 2 + (flat (cs.drop (x + N))).length ≤ (flat cs).length by rw [flat_len, flat_len]; simp [hn]; omega)
    have D4 := hide (show splice (flat cs) ((x) * 2) (flat (cs.drop (x + N))) = flat (splice cs (x) (cs.drop (x + N))) from flat_splice _ _ _)
    have D5 := hide (show (splice cs (x) (cs.drop (x + N))).length = L by rw [length_splice _ _ _ (by simp [hn]; omega)]; exact hn)
    have D6 := hide (show clr (splice cs x (cs.drop (x + N))) (max ((L : Int) - (N : Int)) 0).toNat (min (L : Int) (L : Int)).toNat = del cs x N by
      unfold del
      rw [hn]
      congr 1 <;> omega)
    have HL := hide hl
    have hsub : (L : Int) - (x : Int) ≤ L := by omega
    have w1 : IntKind.i64.wrap ((x : Int) + (N : Int)) = (x : Int) + (N : Int) := by rw [IntKind.wrap_i64]; omega
    have wx : IntKind.i64.wrap (x : Int) = (x : Int) := by rw [IntKind.wrap_i64]; omega
    have w2 : ((x : Int) + (N : Int)).toNat = x + N := by omega
    have w3 : (0 : Int) ≤ (x : Int) + (N : Int) := by omega
    have w4 : (x : Int) + (N : Int) ≤ (L : Int) := by omega
    have w5 : (0 : Int) ≤ (x : Int) := by omega
    have w6 : (x : Int) ≤ (L : Int) := by omega
    have w7 : (L : Int) ≤ (k : Int) := by omega
    clear hd hn hr hin
    rcases hc with ⟨q0, rfl⟩ | ⟨q0, q1, q2⟩ | ⟨q0, q1, rfl⟩
    · skip
      go_enter Try.func7, Try.ntmps7
      go_upto_region 5 with (first
        | (go_at_call 13; refine (HC.out _ (be_refl _)).mono ?_; rintro e W1 ⟨lb, cap, rfl, hO, hB⟩; rw [← HS.out] at hO hB; have O1 := hide hO; have B1 := hide hB; clear hO hB)
        | (go_at_call 14; with_reducible refine (HI _).out.mono ?_; rintro e v ⟨rfl, hv⟩; subst v))
      obtain ⟨g, rfl, hg, hgs, hnc, _⟩ := own_at O1.out HN.out (by omega)
      have HG := hide (And.intro hg hgs)
      have HD := hide (show 0 < (flat (cs.drop (x + 0))).length → ¬ cap = x by intro h; rw [D1.out] at h; intro e; have h2 : Nat.min (L - (x)) (L - (x)) ≤ L - (x) := Nat.min_le_right _ _; (try simp only [Nat.add_zero] at h h2); omega)
      have w8 : (L : Int) ≤ (cap : Int) := by omega
      have HNC := hide hnc
      clear hg hgs hnc
      simp only [sl_some]
      go_region_law ((refine step_copy_rd _ (by rfl) (.tmp 24) (.tmp 29) 24 24 (by rfl) S0 23 2 Try.underlying24 cellSize (by omega) (some g) L cap (flat cs) O1.out.drew (if cap = x then some ⟨g, 0, none⟩ else some ⟨g, (x) * 2, none⟩) ((x) * 2) (L - (x)) (cap - (x)) (if k = x then some ad else some (ad.add ((x) * 2))) (L - (x)) (k - (x)) (by first | with_reducible rfl | (simp only [Act.eval, Act.put]; done) | (simp [Act.eval, Act.put]; done) | rfl) (by first | with_reducible rfl | (simp only [Act.eval, Act.put]; done) | (simp [Act.eval, Act.put]; done) | rfl) (flat (cs.drop (x + 0))) D1.out (fun h => ⟨g, rfl, if_neg (HD.out h)⟩) (D2.out _ (be_drew B1.out)) D3.out (flat_one _) ?_; intro W3 hO3 hG3; rw [D4.out] at hO3; have O3 := hide hO3; have B3 := hide (below_grown (be_drew B1.out) (by have := HG.out; simp; omega) hG3 (fun b e => by cases e; exact HG.out.1)); clear hO3 hG3))
      all_goals go_wp2_with (go_at_call 8; refine (clear_row W3 (some ⟨g, 0, none⟩) L cap (splice cs (x) (cs.drop (x + 0))) D5.out ((Rd.of O3.out).lower (Nat.zero_le _)) HL.out ((L : Int) - (((0 : Nat) : Int) : Int)) (L : Int)).mono ?_; rintro e W4 ⟨lb4, cap4, rfl, hO4, hB4⟩; have O4 := hide hO4; have B4 := hide hB4; clear hO4 hB4)
      all_goals go_ret
      all_goals exact ⟨lb4, cap4, rfl, by rw [HP.out, ← D6.out]; exact O4.out.lower (by have := B3.out.size; rw [HS.out]; exact this), be_call B4.out (by have := B3.out.size; rw [HS.out]; exact this) B3.out⟩
    · have q3 : ((N : Int) < n) = True := by rw [← q2]; exact q1
      go_enter Try.func7, Try.ntmps7
      go_upto_region 5 with (first
        | (go_at_call 13; refine (HC.out _ (be_refl _)).mono ?_; rintro e W1 ⟨lb, cap, rfl, hO, hB⟩; rw [← HS.out] at hO hB; have O1 := hide hO; have B1 := hide hB; clear hO hB)
        | (go_at_call 14; with_reducible refine (HI _).out.mono ?_; rintro e v ⟨rfl, hv⟩; subst v))
      obtain ⟨g, rfl, hg, hgs, hnc, _⟩ := own_at O1.out HN.out (by omega)
      have HG := hide (And.intro hg hgs)
      have HD := hide (show 0 < (flat (cs.drop (x + N))).length → ¬ cap = x by intro h; rw [D1.out] at h; intro e; have h2 : Nat.min (L - (x + N)) (L - (x)) ≤ L - (x) := Nat.min_le_right _ _; (try simp only [Nat.add_zero] at h h2); omega)
      have w8 : (L : Int) ≤ (cap : Int) := by omega
      have HNC := hide hnc
      clear hg hgs hnc
      simp only [sl_some]
      go_region_law ((refine step_copy_rd _ (by rfl) (.tmp 24) (.tmp 29) 24 24 (by rfl) S0 23 2 Try.underlying24 cellSize (by omega) (some g) L cap (flat cs) O1.out.drew (if cap = x then some ⟨g, 0, none⟩ else some ⟨g, (x) * 2, none⟩) ((x) * 2) (L - (x)) (cap - (x)) (if k = x + N then some ad else some (ad.add ((x + N) * 2))) (L - (x + N)) (k - (x + N)) (by first | with_reducible rfl | (simp only [Act.eval, Act.put]; done) | (simp [Act.eval, Act.put]; done) | rfl) (by first | with_reducible rfl | (simp only [Act.eval, Act.put]; done) | (simp [Act.eval, Act.put]; done) | rfl) (flat (cs.drop (x + N))) D1.out (fun h => ⟨g, rfl, if_neg (HD.out h)⟩) (D2.out _ (be_drew B1.out)) D3.out (flat_one _) ?_; intro W3 hO3 hG3; rw [D4.out] at hO3; have O3 := hide hO3; have B3 := hide (below_grown (be_drew B1.out) (by have := HG.out; simp; omega) hG3 (fun b e => by cases e; exact HG.out.1)); clear hO3 hG3))
      all_goals go_wp2_with (go_at_call 8; refine (clear_row W3 (some ⟨g, 0, none⟩) L cap (splice cs (x) (cs.drop (x + N))) D5.out ((Rd.of O3.out).lower (Nat.zero_le _)) HL.out ((L : Int) - (N : Int)) (L : Int)).mono ?_; rintro e W4 ⟨lb4, cap4, rfl, hO4, hB4⟩; have O4 := hide hO4; have B4 := hide hB4; clear hO4 hB4)
      all_goals go_ret
      all_goals exact ⟨lb4, cap4, rfl, by rw [HP.out, ← D6.out]; exact O4.out.lower (by have := B3.out.size; rw [HS.out]; exact this), be_call B4.out (by have := B3.out.size; rw [HS.out]; exact this) B3.out⟩
    · skip
      go_enter Try.func7, Try.ntmps7
      go_upto_region 5 with (first
        | (go_at_call 13; refine (HC.out _ (be_refl _)).mono ?_; rintro e W1 ⟨lb, cap, rfl, hO, hB⟩; rw [← HS.out] at hO hB; have O1 := hide hO; have B1 := hide hB; clear hO hB)
        | (go_at_call 14; with_reducible refine (HI _).out.mono ?_; rintro e v ⟨rfl, hv⟩; subst v))
      obtain ⟨g, rfl, hg, hgs, hnc, _⟩ := own_at O1.out HN.out (by omega)
      have HG := hide (And.intro hg hgs)
      have HD := hide (show 0 < (flat (cs.drop (x + N))).length → ¬ cap = x by intro h; rw [D1.out] at h; intro e; have h2 : Nat.min (L - (x + N)) (L - (x)) ≤ L - (x) := Nat.min_le_right _ _; (try simp only [Nat.add_zero] at h h2); omega)
      have w8 : (L : Int) ≤ (cap : Int) := by omega
      have HNC := hide hnc
      clear hg hgs hnc
      simp only [sl_some]
      go_region_law ((refine step_copy_rd _ (by rfl) (.tmp 24) (.tmp 29) 24 24 (by rfl) S0 23 2 Try.underlying24 cellSize (by omega) (some g) L cap (flat cs) O1.out.drew (if cap = x then some ⟨g, 0, none⟩ else some ⟨g, (x) * 2, none⟩) ((x) * 2) (L - (x)) (cap - (x)) (if k = x + N then some ad else some (ad.add ((x + N) * 2))) (L - (x + N)) (k - (x + N)) (by first | with_reducible rfl | (simp only [Act.eval, Act.put]; done) | (simp [Act.eval, Act.put]; done) | rfl) (by first | with_reducible rfl | (simp only [Act.eval, Act.put]; done) | (simp [Act.eval, Act.put]; done) | rfl) (flat (cs.drop (x + N))) D1.out (fun h => ⟨g, rfl, if_neg (HD.out h)⟩) (D2.out _ (be_drew B1.out)) D3.out (flat_one _) ?_; intro W3 hO3 hG3; rw [D4.out] at hO3; have O3 := hide hO3; have B3 := hide (below_grown (be_drew B1.out) (by have := HG.out; simp; omega) hG3 (fun b e => by cases e; exact HG.out.1)); clear hO3 hG3))
      all_goals go_wp2_with (go_at_call 8; refine (clear_row W3 (some ⟨g, 0, none⟩) L cap (splice cs (x) (cs.drop (x + N))) D5.out ((Rd.of O3.out).lower (Nat.zero_le _)) HL.out ((L : Int) - (N : Int)) (L : Int)).mono ?_; rintro e W4 ⟨lb4, cap4, rfl, hO4, hB4⟩; have O4 := hide hO4; have B4 := hide hB4; clear hO4 hB4)
      all_goals go_ret
      all_goals exact ⟨lb4, cap4, rfl, by rw [HP.out, ← D6.out]; exact O4.out.lower (by have := B3.out.size; rw [HS.out]; exact this), be_call B4.out (by have := B3.out.size; rw [HS.out]; exact this) B3.out⟩
  · have hd : (decide (0 ≤ x0) && decide (x0 < (L : Int))) = false := by simp; omega
    rw [hd] at HI
    have HP := hide (show delete cs x0 n = cs by unfold delete; rw [if_neg (by rw [hn]; exact hin)])
    clear hd hn hr hl hin
    go_enter Try.func7, Try.ntmps7
    go_wp2_with (first
      | (go_at_call 13; refine (HC.out _ (be_refl _)).mono ?_; rintro e W1 ⟨lb, cap, rfl, hO, hB⟩; rw [← HS.out] at hO hB; have O1 := hide hO; have B1 := hide hB; clear hO hB)
      | (go_at_call 14; with_reducible refine (HI _).out.mono ?_; rintro e v ⟨rfl, hv⟩; subst v))
    go_ret
    exact ⟨lb, cap, rfl, by rw [HP.out]; exact O1.out, B1.out⟩
end Go.Proofs.Yteelcbjapbhogaa.RowsIns

