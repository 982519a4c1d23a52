/- Rows of cells: the contracts in the form in which laws use them; when two cells are the same; a few facts of plain lists. -/
import Derived.Laws.StructEq
import Derived.Test.YteelcbjapbhogaaRowsIns
namespace Go.Proofs.Yteelcbjapbhogaa.RowsUse
open Go Go.RowKit Go.Proofs.YteelcbjapbhogaaKit Go.Proofs.Yteelcbjapbhogaa.Mem Go.Proofs.Yteelcbjapbhogaa.RowsBase Go.Proofs.Yteelcbjapbhogaa.RowsRep Go.Proofs.Yteelcbjapbhogaa.RowsOps Go.Proofs.Yteelcbjapbhogaa.RowsMore Go.Proofs.Yteelcbjapbhogaa.RowsIns
attribute [local go_sem] cell_alloc_some cell_alloc2_some cell_alloc3_some cell_alloc4_some
set_option linter.unusedVariables false
set_option linter.unusedSimpArgs false
set_option linter.unusedSectionVars false
theorem equal_int (w : World) (k : IntKind) (t : TypeId) (ht : Try.prog.underlying t = some (.int k)) (d : Nat) (a b : Int) : (Op.equalIn (d + 1) t (.int k a) (.int k b)).run Try.prog w = .ok (decide (a = b)) w := by
  simp [Op.equalIn, run_underlying ht]
  rfl
theorem flds : (Try.prog.fieldsOf 23).toList.map (fun f => (f.name, f.type, f.offset)) = [("R", 21, 0), ("A", 3, 1)] := by kernel_rfl
theorem agg32 (w : World) : (isAgg 21).run Try.prog w = .ok false w := by kernel_rfl
theorem agg64 (w : World) : (isAgg 3).run Try.prog w = .ok false w := by kernel_rfl
theorem cell_same (w : World) (d : Nat) (c e : C) : (Op.equalIn (d + 1 + 1) 23 (.agg #[.int .i32 c.1, .int .i64 c.2]) (.agg #[.int .i32 e.1, .int .i64 e.2])).run Try.prog w = .ok (decide (c = e)) w := by
  rw [run_equalIn_struct (P := Try.prog) w (d + 1) 23 _ _ (by kernel_rfl) (by kernel_rfl)]
  have hl := flds
  generalize (Try.prog.fieldsOf 23).toList = l at *
  obtain ⟨f0, f1, rfl⟩ : ∃ f0 f1, l = [f0, f1] := by
    rcases l with _ | ⟨f0, _ | ⟨f1, _ | ⟨f2, l⟩⟩⟩
    · simp at hl
    · simp at hl
    · exact ⟨f0, f1, rfl⟩
    · simp at hl
  · skip
    simp only [List.map_cons, List.map_nil, List.cons.injEq, Prod.mk.injEq, and_true] at hl
    obtain ⟨⟨n0, t0, o0⟩, n1, t1, o1⟩ := hl
    have e0 := fun d a b => equal_int w .i32 21 Try.underlying21 d a b
    have e1 := fun d a b => equal_int w .i64 3 Try.underlying3 d a b
    obtain ⟨c1, c2⟩ := c
    obtain ⟨g1, g2⟩ := e
    by_cases h1 : c1 = g1 <;> by_cases h2 : c2 = g2 <;> simp [Op.eqFields, n0, n1, t0, t1, o0, o1, part, agg32, agg64, e0, e1, h1, h2]
theorem cell_eql (w : World) (c e : C) : (binOp .eql 23 (.agg #[.int .i32 c.1, .int .i64 c.2]) (.agg #[.int .i32 e.1, .int .i64 e.2])).run Try.prog w = .ok (.bool (decide (c = e))) w := by
  simp only [binOp]
  simp [Op.equal, Op.maxDepth, cell_same w 9998 c e]
theorem cell_neq (w : World) (c e : C) : (binOp .neq 23 (.agg #[.int .i32 c.1, .int .i64 c.2]) (.agg #[.int .i32 e.1, .int .i64 e.2])).run Try.prog w = .ok (.bool (!decide (c = e))) w := by
  simp only [binOp]
  simp [Op.equal, Op.maxDepth, cell_same w 9998 c e]
theorem own_get {W : World} {base g n cap : Nat} {cs : List C} (h : Own W base 23 2 (some g) n cap (flat cs)) (i : Nat) (c : C) (hc : cs[i]? = some c) : W.cell? ⟨g, i * 2, none⟩ = some (.int .i32 c.1) ∧ W.cell? ⟨g, i * 2 + 1, none⟩ = some (.int .i64 c.2) := by
  obtain ⟨f1, f2⟩ := flat_get cs i c hc
  obtain ⟨b1, e1, _, _, c1⟩ := h.cell _ _ f1
  obtain ⟨b2, e2, _, _, c2⟩ := h.cell _ _ f2
  cases e1; cases e2
  exact ⟨c1, c2⟩
/-- A row of the call's own, with an element at least. -/
def Out (w : World) (L : Nat) (cs : List C) (e : Ending) (W' : World) : Prop := ∃ g cap, e = .returned (.slice (some ⟨g, 0, none⟩) L cap) ∧ w.heap.size ≤ g ∧ L ≤ cap ∧ Own W' w.heap.size 23 2 (some g) L cap (flat cs) ∧ Below w.heap.size w W'
theorem out_of {w W' : World} {L : Nat} {cs : List C} {e : Ending} (h : ∃ lb cap, e = .returned (sl lb L cap) ∧ Own W' w.heap.size 23 2 lb L cap (flat cs) ∧ Below w.heap.size w W') (hl : cs.length = L) (h0 : 0 < L) : Out w L cs e W' := by
  obtain ⟨lb, cap, h1, h2, h3⟩ := h
  obtain ⟨g, rfl, hg, _, hc, _⟩ := own_at h2 hl h0
  exact ⟨g, cap, h1, hg, hc, h2, h3⟩
theorem ins_len (cs : List C) (x n : Nat) (h : x + n ≤ cs.length) : (ins cs x n).length = cs.length := by unfold ins; rw [clr_len, length_splice _ _ _ (by simp; omega)]
theorem del_len (cs : List C) (x n : Nat) (h : x + n ≤ cs.length) : (del cs x n).length = cs.length := by unfold del; rw [clr_len, length_splice _ _ _ (by simp; omega)]
theorem insert_len (cs : List C) (x n : Int) : (insert cs x n).length = cs.length := by
  unfold RowsIns.insert
  split
  · exact ins_len _ _ _ (many_le _ _ _ (by omega))
  · rfl
theorem delete_len (cs : List C) (x n : Int) : (delete cs x n).length = cs.length := by
  unfold delete
  split
  · exact del_len _ _ _ (many_le _ _ _ (by omega))
  · rfl
section
variable (w : World) (oa : Option Addr) (L k : Nat) (cs : List C) (hn : cs.length = L) (h0 : 0 < L) (hk : L ≤ k) (hr : RdC w 0 oa cs) (hl : L ≤ 1000000000)
include hn h0 hr hl
theorem u_put (x : Int) (c : C) : Calls Try.prog 10 #[.slice oa L k, .int .i64 x, .agg #[.int .i32 c.1, .int .i64 c.2]] w (Out w L (put cs x c)) := (put_row w oa L k cs hn hr hl x c).mono fun e W' h => out_of h (by rw [put_len]; exact hn) h0
theorem u_clear (f t : Int) : Calls Try.prog 8 #[.slice oa L k, .int .i64 f, .int .i64 t] w (Out w L (clr cs (max f 0).toNat (min t L).toNat)) := (clear_row w oa L k cs hn hr hl f t).mono fun e W' h => out_of h (by rw [clr_len]; exact hn) h0
include hk
theorem u_insert (x n : Int) : Calls Try.prog 6 #[.slice oa L k, .int .i64 x, .int .i64 n] w (Out w L (insert cs x n)) := (insert_row w oa L k cs hn hk hr hl x n).mono fun e W' h => out_of h (by rw [insert_len]; exact hn) h0
theorem u_delete (x n : Int) : Calls Try.prog 7 #[.slice oa L k, .int .i64 x, .int .i64 n] w (Out w L (delete cs x n)) := (delete_row w oa L k cs hn hk hr hl x n).mono fun e W' h => out_of h (by rw [delete_len]; exact hn) h0
end
theorem fit_len (cs : List C) (n : Nat) : (fit cs n).length = n := by unfold fit; rw [length_splice _ _ _ (by simp [bl]; omega), bl_len]
theorem u_fit (w : World) (oa : Option Addr) (n c : Nat) (cs : List C) (hn : cs.length = n) (hr : RdC w 0 oa cs) (x : Int) (L : Nat) (hL : wid x = L) (h0 : 0 < L) : Calls Try.prog 9 #[.slice oa n c, .int .i64 x] w (Out w L (fit cs L)) :=
  (fit_row w oa n c cs hn hr x).mono fun e W' ⟨g, h1, h2, h3⟩ => by rw [hL] at h1 h2; exact out_of ⟨some g, L, h1, h2, h3⟩ (fit_len _ _) h0
theorem rd_own {W : World} {base g n cap : Nat} {cs : List C} (h : Own W base 23 2 (some g) n cap (flat cs)) : RdC W 0 (some ⟨g, 0, none⟩) cs := (Rd.of h).lower (Nat.zero_le _)
theorem rd_lit {W : World} {b : Nat} {t : TypeId} {cs : List C} (h : W.heap[b]? = some (.cells (flat cs).toArray t (0, 0))) : RdC W 0 (some ⟨b, 0, none⟩) cs := fun j v hv => ⟨_, rfl, Nat.zero_le _, by rw [add_head, bs_cell h, List.getElem?_toArray]; exact hv⟩
section
variable (w W : World) (g cap : Nat)
theorem a1 : Calls Try.prog 9 #[.slice (some ⟨w.heap.size, 0, none⟩) 3 3, .int .i64 4] (w.alloc (.cells #[.int .i32 97, .int .i64 0, .int .i32 98, .int .i64 0, .int .i32 99, .int .i64 0] 23)) (Out (w.alloc (.cells #[.int .i32 97, .int .i64 0, .int .i32 98, .int .i64 0, .int .i32 99, .int .i64 0] 23)) 4 [(97, 0), (98, 0), (99, 0), (32, 0)]) :=
  u_fit _ _ 3 3 [(97, 0), (98, 0), (99, 0)] rfl (rd_lit (bs_new rfl)) 4 4 rfl (by omega)
variable (b : Nat) (h : Own W b 23 2 (some g) 4 cap (flat [(97, 0), (98, 0), (99, 0), (32, 0)])) (hc : 4 ≤ cap)
include h hc
theorem a2 : Calls Try.prog 6 #[.slice (some ⟨g, 0, none⟩) 4 cap, .int .i64 1, .int .i64 2] W (Out W 4 [(97, 0), (32, 0), (32, 0), (98, 0)]) := u_insert W _ 4 cap _ rfl (by omega) hc (rd_own h) (by omega) 1 2
theorem a3 : Calls Try.prog 7 #[.slice (some ⟨g, 0, none⟩) 4 cap, .int .i64 1, .int .i64 1] W (Out W 4 [(97, 0), (99, 0), (32, 0), (32, 0)]) := u_delete W _ 4 cap _ rfl (by omega) hc (rd_own h) (by omega) 1 1
theorem a4 : Calls Try.prog 8 #[.slice (some ⟨g, 0, none⟩) 4 cap, .int .i64 (-1), .int .i64 2] W (Out W 4 [(32, 0), (32, 0), (99, 0), (32, 0)]) := u_clear W _ 4 cap _ rfl (by omega) (rd_own h) (by omega) (-1) 2
theorem a5 : Calls Try.prog 10 #[.slice (some ⟨g, 0, none⟩) 4 cap, .int .i64 3, .agg #[.int .i32 122, .int .i64 5]] W (Out W 4 [(97, 0), (98, 0), (99, 0), (122, 5)]) := u_put W _ 4 cap _ rfl (by omega) (rd_own h) (by omega) 3 (122, 5)
end
theorem u_blank (w : World) (x : Int) (L : Nat) (hL : wid x = L) : Calls Try.prog 11 #[.int .i64 x] w fun e w' => ∃ g, e = .returned (.slice (some ⟨g, 0, none⟩) L L) ∧ Own w' w.heap.size 23 2 (some g) L L (flat (bl L)) ∧ Below w.heap.size w w' := by
  have := blank_row w x
  rw [hL] at this
  exact this
set_option maxHeartbeats 16000000 in
set_option maxRecDepth 100000 in
theorem awake_calls (w : World) : Calls Try.prog 12 #[] w fun e w' => e = .returned (.bool true) ∧ Below w.heap.size w w' := by
  have HA := hide (a1 w)
  have BA := hide (show Below w.heap.size w (w.alloc (.cells #[.int .i32 97, .int .i64 0, .int .i32 98, .int .i64 0, .int .i32 99, .int .i64 0] 23)) from be_alloc (be_refl _) (Nat.le_refl _))
  have HE := fun W => cell_eql W (122, 5) (122, 5)
  go_enter Try.func12, Try.ntmps12
  go_upto_region 6 with (first
    | (go_at_call 9; (with_reducible refine HA.out.mono ?_); rintro e W1 ⟨g1, k1, rfl, hg1, hk1, hO, hB⟩; have O1 := hide hO; have B1 := hide (be_call hB BA.out.size BA.out); have K1 := hide hk1; clear hO hB hk1 hg1)
    | (go_at_call 6; (with_reducible refine (a2 W1 g1 k1 _ O1.out K1.out).mono ?_); rintro e W2 ⟨g2, k2, rfl, hg2, hk2, hO, hB⟩; have O2 := hide hO; have P1 := hide (O1.out.below hB); have B2 := hide (be_call hB B1.out.size B1.out); clear hO hB hk2 hg2)
    | (go_at_call 7; (with_reducible refine (a3 W2 g1 k1 _ P1.out K1.out).mono ?_); rintro e W3 ⟨g3, k3, rfl, hg3, hk3, hO, hB⟩; have O3 := hide hO; have Q1 := hide (P1.out.below hB); have P2 := hide (O2.out.below hB); have B3 := hide (be_call hB B2.out.size B2.out); clear hO hB hk3 hg3)
    | (go_at_call 8; (with_reducible refine (a4 W3 g1 k1 _ Q1.out K1.out).mono ?_); rintro e W4 ⟨g4, k4, rfl, hg4, hk4, hO, hB⟩; have O4 := hide hO; have R1 := hide (Q1.out.below hB); have Q2 := hide (P2.out.below hB); have P3 := hide (O3.out.below hB); have B4 := hide (be_call hB B3.out.size B3.out); clear hO hB hk4 hg4)
    | (go_at_call 10; (with_reducible refine (a5 W4 g1 k1 _ R1.out K1.out).mono ?_); rintro e W5 ⟨g5, k5, rfl, hg5, hk5, hO, hB⟩; have O5 := hide hO; have S1 := hide (R1.out.below hB); have R2 := hide (Q2.out.below hB); have Q3 := hide (P3.out.below hB); have P4 := hide (O4.out.below hB); have B5 := hide (be_call hB B4.out.size B4.out); clear hO hB hk5 hg5))
  have x1 : W5.cell? ⟨g1, 6, none⟩ = some (.int .i32 32) := (own_get S1.out 3 _ rfl).1
  have x2 : W5.cell? ⟨g2, 0, none⟩ = some (.int .i32 97) := (own_get R2.out 0 _ rfl).1
  have x3 : W5.cell? ⟨g2, 2, none⟩ = some (.int .i32 32) := (own_get R2.out 1 _ rfl).1
  have x4 : W5.cell? ⟨g2, 6, none⟩ = some (.int .i32 98) := (own_get R2.out 3 _ rfl).1
  have x5 : W5.cell? ⟨g3, 2, none⟩ = some (.int .i32 99) := (own_get Q3.out 1 _ rfl).1
  have x6 : W5.cell? ⟨g3, 6, none⟩ = some (.int .i32 32) := (own_get Q3.out 3 _ rfl).1
  have x7 : W5.cell? ⟨g4, 2, none⟩ = some (.int .i32 32) := (own_get P4.out 1 _ rfl).1
  have x8 : W5.cell? ⟨g4, 4, none⟩ = some (.int .i32 99) := (own_get P4.out 2 _ rfl).1
  have x9 : W5.cell? ⟨g5, 6, none⟩ = some (.int .i32 122) := (own_get O5.out 3 _ rfl).1
  have x10 : W5.cell? ⟨g5, 7, none⟩ = some (.int .i64 5) := (own_get O5.out 3 _ rfl).2
  go_wp2_with (first
    | (go_at_call 11; (with_reducible refine (u_blank W5 (-1) 0 rfl).mono ?_); rintro e W6 ⟨g6, rfl, _, hb⟩; have B6 := hide (be_call hb B5.out.size B5.out); clear hb)
    | (go_at_call 11; (with_reducible refine (u_blank W6 2000 1000 rfl).mono ?_); rintro e W7 ⟨g7, rfl, _, hb⟩; have B7 := hide (be_call hb B6.out.size B6.out); clear hb))
  go_ret
  exact ⟨rfl, B7.out⟩
end Go.Proofs.Yteelcbjapbhogaa.RowsUse

