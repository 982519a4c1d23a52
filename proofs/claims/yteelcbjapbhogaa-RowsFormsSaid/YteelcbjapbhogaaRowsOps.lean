/- Rows of cells: Blank, Fit, Put and Clear: contracts, without a condition of their own. -/
import Derived.Test.YteelcbjapbhogaaRowsRep
namespace Go.Proofs.Yteelcbjapbhogaa.RowsOps
open Go Go.RowKit Go.Proofs.YteelcbjapbhogaaKit Go.Proofs.Yteelcbjapbhogaa.Mem Go.Proofs.Yteelcbjapbhogaa.RowsBase Go.Proofs.Yteelcbjapbhogaa.RowsRep
attribute [local go_sem] cell_alloc_some cell_alloc2_some cell_alloc3_some cell_alloc4_some
set_option linter.unusedVariables false
set_option linter.unusedSimpArgs false
/-- A width, held within 0 and 1000. -/
def wid (x : Int) : Nat := (min (max x 0) 1000).toNat
theorem wid_le (x : Int) : wid x ≤ 1000 := by unfold wid; omega
def bl (n : Nat) : List C := List.replicate n blk
theorem bl_len (n : Nat) : (bl n).length = n := List.length_replicate ..
def fit (cs : List C) (n : Nat) : List C := splice (bl n) 0 (cs.take (min cs.length n))
def clr (cs : List C) (a b : Nat) : List C := cs.mapIdx fun i c => if a ≤ i ∧ i < b then blk else c
theorem clr_len (cs : List C) (a b : Nat) : (clr cs a b).length = cs.length := List.length_mapIdx
theorem clr_get (cs : List C) (a b i : Nat) : (clr cs a b)[i]? = (cs[i]?).map fun c => if a ≤ i ∧ i < b then blk else c := List.getElem?_mapIdx
theorem clr_self (cs : List C) (a b : Nat) (h : b ≤ a) : clr cs a b = cs := by
  apply List.ext_getElem?
  intro i
  rw [clr_get]
  cases cs[i]? with
  | none => rfl
  | some c => simp; intro h1 h2; omega
theorem clr_step (cs : List C) (a x : Nat) (h : a ≤ x) : (clr cs a x).set x blk = clr cs a (x + 1) := by
  apply List.ext_getElem?
  intro i
  rw [List.getElem?_set, clr_get, clr_get, clr_len]
  by_cases hi : x = i
  · subst hi
    by_cases hl : x < cs.length
    · rw [if_pos rfl, if_pos hl, List.getElem?_eq_getElem hl]
      simp [h]
    · rw [if_pos rfl, if_neg hl, List.getElem?_eq_none (by omega)]; rfl
  · rw [if_neg hi]
    cases cs[i]? with
    | none => rfl
    | some c => simp; congr 1; simp; omega
set_option maxHeartbeats 8000000 in
set_option maxRecDepth 100000 in
theorem blank_row (w : World) (x : Int) : Calls Try.prog 11 #[.int .i64 x] w fun e w' => ∃ g, e = .returned (sl (some g) (wid x) (wid x)) ∧ Own w' w.heap.size 23 2 (some g) (wid x) (wid x) (flat (bl (wid x))) ∧ Below w.heap.size w w' := by
  have HB := hide (blank_calls w)
  have key : ∀ n : Nat, n ≤ 1000 → ∀ W, Below w.heap.size w W → Calls Try.prog 16 #[.slice (some ⟨W.heap.size, 0, none⟩) 1 1, .int .i64 (n : Int)] (W.alloc (.cells #[.int .i32 32, .int .i64 0] 23)) fun e w' => ∃ g, e = .returned (sl (some g) n n) ∧ Own w' w.heap.size 23 2 (some g) n n (flat (bl n)) ∧ Below w.heap.size w w' := fun n hn W hW =>
    (repeat_calls (W.alloc (.cells #[.int .i32 32, .int .i64 0] 23)) W.heap.size n (bs_new rfl) hn).mono fun e w' ⟨g, h1, h2, h3⟩ => ⟨g, h1, h2.lower (by have := hW.size; simp; omega), be_call h3 (by have := hW.size; simp; omega) (be_alloc hW hW.size)⟩
  have KEY := hide key
  clear key
  have cases : x < 0 ∧ wid x = 0 ∨ (0 ≤ x ∧ x ≤ 1000) ∧ x = (wid x : Int) ∨ 1000 < x ∧ wid x = 1000 := by unfold wid; omega
  generalize wid x = n at *
  have hn : n ≤ 1000 := by omega
  have HN := hide hn
  rcases cases with ⟨h0, rfl⟩ | ⟨⟨h0, h1⟩, rfl⟩ | ⟨h0, rfl⟩
  · have p0 : (x < 0) = True := eq_true h0
    have KN := hide (KEY.out 0 HN.out)
    clear h0 hn
    go_enter Try.func11, Try.ntmps11
    go_wp2_with (first
      | (go_at_call 15; with_reducible refine HB.out.mono ?_; rintro e W1 ⟨rfl, hb1⟩; have B1 := hide hb1; clear hb1)
      | (go_at_call 16; refine (KN.out W1 B1.out).mono ?_; rintro e W2 ⟨g, rfl, hO, hB⟩; have O2 := hide hO; have B2 := hide hB; clear hO hB))
    go_ret
    exact ⟨g, rfl, O2.out, B2.out⟩
  · have p0 : ((n : Int) < 0) = False := eq_false (by omega)
    have p1 : ((1000 : Int) < (n : Int)) = False := eq_false (by omega)
    have KN := hide (KEY.out n HN.out)
    clear h0 h1 hn
    go_enter Try.func11, Try.ntmps11
    go_wp2_with (first
      | (go_at_call 15; with_reducible refine HB.out.mono ?_; rintro e W1 ⟨rfl, hb1⟩; have B1 := hide hb1; clear hb1)
      | (go_at_call 16; refine (KN.out W1 B1.out).mono ?_; rintro e W2 ⟨g, rfl, hO, hB⟩; have O2 := hide hO; have B2 := hide hB; clear hO hB))
    go_ret
    exact ⟨g, rfl, O2.out, B2.out⟩
  · have p0 : (x < 0) = False := eq_false (by omega)
    have p1 : ((1000 : Int) < x) = True := eq_true h0
    have KN := hide (KEY.out 1000 HN.out)
    clear h0 hn
    go_enter Try.func11, Try.ntmps11
    go_wp2_with (first
      | (go_at_call 15; with_reducible refine HB.out.mono ?_; rintro e W1 ⟨rfl, hb1⟩; have B1 := hide hb1; clear hb1)
      | (go_at_call 16; refine (KN.out W1 B1.out).mono ?_; rintro e W2 ⟨g, rfl, hO, hB⟩; have O2 := hide hO; have B2 := hide hB; clear hO hB))
    go_ret
    exact ⟨g, rfl, O2.out, B2.out⟩
set_option maxHeartbeats 8000000 in
set_option maxRecDepth 100000 in
theorem fit_row (w : World) (oa : Option Addr) (n c : Nat) (cs : List C) (hn : cs.length = n) (hr : RdC w 0 oa cs) (x : Int) :
    Calls Try.prog 9 #[.slice oa n c, .int .i64 x] w fun e w' => ∃ g, e = .returned (sl (some g) (wid x) (wid x)) ∧ Own w' w.heap.size 23 2 (some g) (wid x) (wid x) (flat (fit cs (wid x))) ∧ Below w.heap.size w w' := by
  have HB := hide (blank_row w x)
  have HR := hide hr
  obtain ⟨m, hm⟩ : ∃ m, m = wid x := ⟨_, rfl⟩
  rw [← hm] at HB ⊢
  have A1 := hide (show (flat (cs.take (min cs.length m))).length = Nat.min n m * 2 by
    rw [flat_len, List.length_take, ← hn]
    have : Nat.min cs.length m = min cs.length m := rfl
    rw [this]; omega)
  have A3 := hide (show 0 + (flat (cs.take (min cs.length m))).length ≤ (flat (bl m)).length by rw [flat_len, flat_len, bl_len, List.length_take]; omega)
  have A4 := hide (show splice (flat (bl m)) 0 (flat (cs.take (min cs.length m))) = flat (fit cs m) by
    have h := flat_splice (bl m) (cs.take (min cs.length m)) 0
    rw [Nat.zero_mul] at h
    exact h)
  have SRC := hide (show ∀ W, Below w.heap.size w W → Rd W 0 oa (flat (cs.take (min cs.length m))) from fun W hB j v hv => by
    refine (HR.out.below hB) j v ?_
    rw [← flat_take, List.getElem?_take] at hv
    split at hv
    · exact hv
    · cases hv)
  clear hr hn hm
  go_enter Try.func9, Try.ntmps9
  go_wp2_with (first
    | (go_at_call 11; with_reducible refine HB.out.mono ?_; rintro e W1 ⟨g, rfl, hO, hB⟩; have O1 := hide hO; have B1 := hide hB; clear hO hB)
    | (refine wpList_copy_rd _ rfl (.tmp 8) (.tmp 9) 24 24 rfl w.heap.size 23 2 Try.underlying24 cellSize (by omega) (some g) m m (flat (bl m)) O1.out _ 0 _ _ _ _ _ rfl rfl (flat (cs.take (min cs.length m))) A1.out (fun _ => ⟨g, rfl, rfl⟩) (SRC.out _ B1.out) A3.out (flat_one _) ?_; intro W2 hO2 hG2; rw [A4.out] at hO2; have O2 := hide hO2; have B2 := hide (below_grown B1.out (by have := own_base O1.out; omega) hG2 (fun b e => by cases e; exact (own_base O1.out).1)); clear hO2 hG2))
  go_ret
  exact ⟨g, rfl, O2.out, B2.out⟩
end Go.Proofs.Yteelcbjapbhogaa.RowsOps

