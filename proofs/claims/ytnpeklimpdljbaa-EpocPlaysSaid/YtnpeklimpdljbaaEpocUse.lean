/- Epochs: the contracts in the form in which the laws use them, and what the document fixes of epochs. -/
import Derived.Test.YtnpeklimpdljbaaEpocAdv
namespace Go.Proofs.Ytnpeklimpdljbaa.EpocUse
open Go.RowKit Go.Proofs.YtnpeklimpdljbaaKit Go.Proofs.YtnpeklimpdljbaaW.PrintWords Go.Proofs.YtnpeklimpdljbaaW.PrintLast Go.Proofs.Ytnpeklimpdljbaa.EpocBase Go.Proofs.Ytnpeklimpdljbaa.EpocOps Go.Proofs.Ytnpeklimpdljbaa.EpocRows Go.Proofs.Ytnpeklimpdljbaa.EpocAdv
attribute [local go_sem] cell_alloc_some cell_alloc2_some cell_alloc3_some cell_alloc4_some
set_option linter.unusedVariables false
set_option linter.unusedSimpArgs false
/-- A row of numbers at an address that may be nil; its block is none of those below base. -/
structure RD (W : World) (base : Nat) (oa : Option Addr) (l : List Int) : Prop where
  out : ∃ ob : Option Nat, (oa = ob.map fun b => ⟨b, 0, none⟩) ∧ Ints W ob l ∧ ∀ b, ob = some b → base ≤ b
theorem RD.keep {W W' : World} {base : Nat} {oa : Option Addr} {l : List Int} (h : RD W base oa l) (hk : ∀ b, base ≤ b → b < W.heap.size → W'.heap[b]? = W.heap[b]?) : RD W' base oa l := by
  obtain ⟨ob, h1, h2, h3⟩ := h.out
  refine ⟨ob, h1, fun i z hz => ?_, h3⟩
  obtain ⟨b, hb, hc⟩ := h2 i z hz
  refine ⟨b, hb, ?_⟩
  have hlt := World.block_lt_of_cell? W _ hc
  have := hk b (h3 b hb) hlt
  unfold World.cell? at hc ⊢
  simpa [this] using hc
theorem RD.below {W W' : World} {base : Nat} {oa : Option Addr} {l : List Int} (h : RD W base oa l) (hb : Below W.heap.size W W') : RD W' base oa l := h.keep fun b _ hlt => hb.block b hlt
theorem RD.base {W : World} {base base' : Nat} {oa : Option Addr} {l : List Int} (h : RD W base oa l) (hb : base' ≤ base) : RD W base' oa l := by
  obtain ⟨ob, h1, h2, h3⟩ := h.out
  exact ⟨ob, h1, h2, fun b e => Nat.le_trans hb (h3 b e)⟩
theorem RD.nil (W : World) (base : Nat) : RD W base none [] := ⟨none, rfl, fun i z hz => by simp at hz, fun b e => by cases e⟩
theorem RD.of {W : World} {base : Nat} {e : TypeId} {ob : Option Nat} {n cap : Nat} {l : List Int} (h : Own W base e 1 ob n cap (intsOf l)) : RD W base (ob.map fun b => ⟨b, 0, none⟩) l :=
  ⟨ob, rfl, Own.ints h, fun b e => by subst e; exact (own_base h).1⟩
theorem RD.lit {W : World} {k : Nat} {t : TypeId} {l : List Int} (h : W.heap[k]? = some (.cells (intsOf l).toArray t (0, 0))) : RD W k (some ⟨k, 0, none⟩) l :=
  ⟨some k, rfl, fun i z hz => ⟨k, rfl, by rw [bs_cell h, List.getElem?_toArray]; unfold intsOf; rw [List.getElem?_map, hz]; rfl⟩, fun b e => by cases e; exact Nat.le_refl _⟩
theorem same_rd (W : World) (b1 b2 : Nat) (oa ob : Option Addr) (ca cb : Nat) (a b : List Int) (hca : a.length ≤ 1000000) (ha : RD W b1 oa a) (hb : RD W b2 ob b) (n m : Nat) (hn : n = a.length) (hm : m = b.length) :
    Calls Try.prog 10 #[.slice oa n ca, .slice ob m cb] W fun e W' => e = .returned (.bool (decide (a = b))) ∧ Below W.heap.size W W' := by
  subst hn hm
  obtain ⟨la, rfl, h2, _⟩ := ha.out
  obtain ⟨lb, rfl, h3, _⟩ := hb.out
  exact same_calls W la lb ca cb a b hca h2 h3
theorem adv_rd (w W : World) (g pb : Nat) (lb : Option Nat) (cap : Nat) (now : Int) (ps : List Int) (xs : List (Int × Int)) (h : Ep w W g pb lb cap now ps xs) (hps : ∀ p ∈ ps, 0 ≤ p ∧ p ≤ 1000000) (hpl : ps.length ≤ 1000) (hl : xs.length ≤ 1000000) (hnow : 0 ≤ now ∧ now ≤ 1000000) (hc : canB now ps = true) :
    Calls Try.prog 9 #[.pointer (some ⟨g, 0, none⟩)] W fun e W' => ∃ oa oc lb' cap', e = .returned (.tuple #[.slice oa (out now xs).length oc, .bool true]) ∧ RD W' W.heap.size oa (out now xs) ∧ Ep w W' g pb lb' cap' (now + 1) ps (rest now xs) ∧ Fr g pb W lb W' lb' :=
  (adv_yes w W g pb lb cap now ps xs h hps hpl hl hnow hc).mono fun e W' ⟨ob, oc, lb', cap', h1, h2, h3, h4⟩ => ⟨ob.map fun b => ⟨b, 0, none⟩, oc, lb', cap', h1, RD.of h2, h3, h4⟩
theorem waiting_rd (w W : World) (g pb : Nat) (lb : Option Nat) (cap : Nat) (now : Int) (ps : List Int) (xs : List (Int × Int)) (h : Ep w W g pb lb cap now ps xs) (hl : xs.length ≤ 1000000) :
    Calls Try.prog 12 #[.pointer (some ⟨g, 0, none⟩)] W fun e W' => ∃ oa oc, e = .returned (.slice oa xs.length oc) ∧ RD W' W.heap.size oa (xs.map (·.1)) ∧ Below W.heap.size W W' :=
  (waiting_calls w W g pb lb cap now ps xs h hl).mono fun e W' ⟨ob, oc, h1, h2, h3⟩ => ⟨ob.map fun b => ⟨b, 0, none⟩, oc, h1, RD.of h2, h3⟩
section
variable (w W : World) (g pb : Nat) (lb : Option Nat) (cap : Nat)
theorem n2 : Calls Try.prog 7 #[.int .i64 2] w fun e W' => ∃ g pb, e = .returned (.pointer (some ⟨g, 0, none⟩)) ∧ Ep w W' g pb none 0 0 [0, 0] [] := new_calls 2 2 w (by omega) (.inl rfl)
theorem a1 (h : Ep w W g pb lb cap 0 [0, 0] []) : Calls Try.prog 14 #[.pointer (some ⟨g, 0, none⟩), .int .i64 1] W fun e W' => e = .returned (.bool true) ∧ Ep w W' g pb lb cap 0 [0, 1] [] ∧ Fr g pb W lb W' lb := pin_yes 1 w W g pb lb cap 0 _ _ h (by omega) rfl (by omega)
theorem a2 (h : Ep w W g pb lb cap 0 [0, 1] []) : Calls Try.prog 8 #[.pointer (some ⟨g, 0, none⟩), .int .i64 7] W fun e W' => e = .returned (.tuple #[]) ∧ ∃ lb' cap', Ep w W' g pb lb' cap' 0 [0, 1] [(7, 0)] ∧ Fr g pb W lb W' lb' := retire_calls 7 w W g pb lb cap 0 _ _ h (by simp)
theorem a3 (h : Ep w W g pb lb cap 0 [0, 1] [(7, 0)]) : Calls Try.prog 9 #[.pointer (some ⟨g, 0, none⟩)] W fun e W' => ∃ oa oc lb' cap', e = .returned (.tuple #[.slice oa 0 oc, .bool true]) ∧ RD W' W.heap.size oa [] ∧ Ep w W' g pb lb' cap' 1 [0, 1] [(7, 0)] ∧ Fr g pb W lb W' lb' := adv_rd w W g pb lb cap 0 _ _ h (by simp) (by simp) (by simp) (by omega) (by decide)
theorem a4 (h : Ep w W g pb lb cap 1 [0, 1] [(7, 0)]) : Calls Try.prog 9 #[.pointer (some ⟨g, 0, none⟩)] W fun e W' => e = .returned (.tuple #[.slice none 0 0, .bool false]) ∧ W' = W := adv_no w W g pb lb cap 1 _ _ h (by simp) (by simp) (by decide)
theorem a5 (h : Ep w W g pb lb cap 1 [0, 1] [(7, 0)]) : Calls Try.prog 15 #[.pointer (some ⟨g, 0, none⟩), .int .i64 1] W fun e W' => e = .returned (.tuple #[.int .i64 0, .bool true]) ∧ W' = W := pinned_yes 1 1 w W g pb lb cap 1 _ _ h (by omega) rfl (by omega) (by omega)
theorem a6 (h : Ep w W g pb lb cap 1 [0, 1] [(7, 0)]) : Calls Try.prog 18 #[.pointer (some ⟨g, 0, none⟩), .int .i64 1] W fun e W' => e = .returned (.bool true) ∧ Ep w W' g pb lb cap 1 [0, 0] [(7, 0)] ∧ Fr g pb W lb W' lb := unpin_yes 1 1 w W g pb lb cap 1 _ _ h (by omega) rfl (by omega) (by omega)
theorem a7 (h : Ep w W g pb lb cap 1 [0, 0] [(7, 0)]) : Calls Try.prog 9 #[.pointer (some ⟨g, 0, none⟩)] W fun e W' => ∃ oa oc lb' cap', e = .returned (.tuple #[.slice oa 1 oc, .bool true]) ∧ RD W' W.heap.size oa [7] ∧ Ep w W' g pb lb' cap' 2 [0, 0] [] ∧ Fr g pb W lb W' lb' := adv_rd w W g pb lb cap 1 _ _ h (by simp) (by simp) (by simp) (by omega) (by decide)
theorem a8 (oa : Option Addr) (oc k : Nat) (ha : RD W k oa [7]) (B0 : Nat) (hB : B0 = W.heap.size) : Calls Try.prog 10 #[.slice oa 1 oc, .slice (some ⟨B0, 0, none⟩) 1 1] (W.alloc (.cells #[.int .i64 7] 3)) fun e W' => e = .returned (.bool true) ∧ Below W.heap.size W W' := by
  subst hB
  refine (same_rd (W.alloc (.cells #[.int .i64 7] 3)) k W.heap.size oa (some ⟨W.heap.size, 0, none⟩) oc 1 [7] [7] (by simp) (ha.below (be_alloc (be_refl _) (Nat.le_refl _))) (RD.lit (t := 3) (bs_new rfl)) 1 1 rfl rfl).mono ?_
  rintro e W' ⟨rfl, hb⟩
  exact ⟨rfl, be_call hb (by simp) (be_alloc (be_refl _) (Nat.le_refl _))⟩
theorem a9 (h : Ep w W g pb lb cap 2 [0, 0] []) : Calls Try.prog 11 #[.pointer (some ⟨g, 0, none⟩)] W fun e W' => e = .returned (.int .i64 2) ∧ W' = W := now_calls w W g pb lb cap 2 _ _ h
theorem a10 (h : Ep w W g pb lb cap 2 [0, 0] []) : Calls Try.prog 14 #[.pointer (some ⟨g, 0, none⟩), .int .i64 2] W fun e W' => e = .returned (.bool false) ∧ W' = W := pin_out 2 w W g pb lb cap 2 _ _ h (.inr (by simp))
theorem a11 (h : Ep w W g pb lb cap 2 [0, 0] []) : Calls Try.prog 18 #[.pointer (some ⟨g, 0, none⟩), .int .i64 0] W fun e W' => e = .returned (.bool false) ∧ W' = W := unpin_no 0 w W g pb lb cap 2 _ _ h (.inr rfl)
theorem a12 (h : Ep w W g pb lb cap 2 [0, 0] []) : Calls Try.prog 12 #[.pointer (some ⟨g, 0, none⟩)] W fun e W' => ∃ oa oc, e = .returned (.slice oa 0 oc) ∧ RD W' W.heap.size oa [] ∧ Below W.heap.size W W' := waiting_rd w W g pb lb cap 2 _ _ h (by simp)
end
set_option maxHeartbeats 8000000 in
set_option maxRecDepth 100000 in
theorem awake_calls (w : World) : Calls Try.prog 13 #[] w fun e w' => e = .returned (.bool true) ∧ Below w.heap.size w w' := by
  have HN := hide (n2 w)
  go_enter Try.func13, Try.ntmps13
  go_wp2_with (first
    | (go_at_call 7; with_reducible refine (HN.out).mono ?_; rintro e W1 ⟨g, pb, rfl, P⟩; have P1 := hide P; clear P)
    | (go_at_call 14; with_reducible refine (a1 w _ g pb _ _ P1.out).mono ?_; rintro e W2 ⟨rfl, P, _⟩; have P2 := hide P; clear P)
    | (go_at_call 8; with_reducible refine (a2 w _ g pb _ _ P2.out).mono ?_; rintro e W3 ⟨rfl, lb3, cap3, P, _⟩; have P3 := hide P; clear P)
    | (go_at_call 9; with_reducible refine (a3 w _ g pb _ _ P3.out).mono ?_; rintro e W4 ⟨oa4, oc4, lb4, cap4, rfl, _, P, _⟩; have P4 := hide P; clear P)
    | (go_at_call 9; with_reducible refine (a4 w _ g pb _ _ P4.out).mono ?_; rintro e v ⟨rfl, hv⟩; subst v)
    | (go_at_call 15; with_reducible refine (a5 w _ g pb _ _ P4.out).mono ?_; rintro e v ⟨rfl, hv⟩; subst v)
    | (go_at_call 18; with_reducible refine (a6 w _ g pb _ _ P4.out).mono ?_; rintro e W6 ⟨rfl, P, _⟩; have P6 := hide P; clear P)
    | (go_at_call 9; with_reducible refine (a7 w _ g pb _ _ P6.out).mono ?_; rintro e W7 ⟨oa7, oc7, lb7, cap7, rfl, R, P, _⟩; have P7 := hide P; have R7 := hide R; clear P R)
    | (go_at_call 10; with_reducible refine (a8 W7 oa7 oc7 _ R7.out _ rfl).mono ?_; rintro e W8 ⟨rfl, hb8⟩; have P8 := hide (P7.out.below_then hb8))
    | (go_at_call 11; with_reducible refine (a9 w _ g pb _ _ P8.out).mono ?_; rintro e v ⟨rfl, hv⟩; subst v)
    | (go_at_call 14; with_reducible refine (a10 w _ g pb _ _ P8.out).mono ?_; rintro e v ⟨rfl, hv⟩; subst v)
    | (go_at_call 18; with_reducible refine (a11 w _ g pb _ _ P8.out).mono ?_; rintro e v ⟨rfl, hv⟩; subst v)
    | (go_at_call 12; with_reducible refine (a12 w _ g pb _ _ P8.out).mono ?_; rintro e W9 ⟨oa9, oc9, rfl, _, hb9⟩; have P9 := hide (P8.out.below_then hb9)))
  go_ret
  exact ⟨rfl, P9.out.below⟩
end Go.Proofs.Ytnpeklimpdljbaa.EpocUse

