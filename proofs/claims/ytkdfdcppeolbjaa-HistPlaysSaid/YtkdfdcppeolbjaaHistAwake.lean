/- What the document fixes of histories. -/
import Derived.Test.YtkdfdcppeolbjaaHistStamp
namespace Go.Proofs.Ytkdfdcppeolbjaa.HistAwake
open Go Go.RowKit Go.Maps Go.Proofs.YtkdfdcppeolbjaaKit Go.Proofs.Ytkdfdcppeolbjaa.Mem Go.Proofs.Ytkdfdcppeolbjaa.HistBase Go.Proofs.Ytkdfdcppeolbjaa.HistStill Go.Proofs.Ytkdfdcppeolbjaa.HistOps Go.Proofs.Ytkdfdcppeolbjaa.HistRead Go.Proofs.Ytkdfdcppeolbjaa.HistFirst Go.Proofs.Ytkdfdcppeolbjaa.HistStamp
attribute [local go_sem] cell_alloc_some cell_alloc2_some cell_alloc3_some cell_alloc4_some
set_option linter.unusedVariables false
set_option linter.unusedSimpArgs false
theorem wf_of {x : Int} (h0 : -9000000000000000000 ≤ x) (h1 : x ≤ 9000000000000000000) : wfI x := WalkArith.wf_i64 (by omega)
/-- A history of these events and this order; the blocks in X are not its own. -/
def Hs (w W : World) (g : Nat) (evs : List Ev) (od : List (Int × Int)) (X : Nat → Prop) : Prop :=
  (∀ k, X k → w.heap.size ≤ k ∧ k < W.heap.size) ∧ ∃ lb cap ob oc B m D, Hi w W g lb cap ob oc B m evs od D ∧ ∀ k, X k → k ≠ g ∧ k ≠ B ∧ lb ≠ some k ∧ ob ≠ some k
def Keeps (X : Nat → Prop) (W W' : World) : Prop := ∀ k, X k → W'.heap[k]? = W.heap[k]?
section
variable {w W W' : World} {g : Nat} {evs evs' : List Ev} {od od' : List (Int × Int)} {X Y : Nat → Prop}
theorem Hs.step {lb ob lb' ob' : Option Nat} {B cap' oc' m' : Nat} {D' : Dw} (hX : ∀ k, X k → w.heap.size ≤ k ∧ k < W.heap.size) (hk : ∀ k, X k → k ≠ g ∧ k ≠ B ∧ lb ≠ some k ∧ ob ≠ some k)
    (h' : Hi w W' g lb' cap' ob' oc' B m' evs' od' D') (hf : Fh g B W lb ob W' lb' ob') : Hs w W' g evs' od' X ∧ Keeps X W W' := by
  refine ⟨⟨fun k hx => ⟨(hX k hx).1, Nat.lt_of_lt_of_le (hX k hx).2 hf.size⟩, lb', cap', ob', oc', B, m', D', h', fun k hx => ?_⟩, fun k hx => ?_⟩
  · obtain ⟨h1, h2, h3, h4⟩ := hk k hx
    obtain ⟨h5, h6⟩ := hf.own k (hX k hx).2 (fun e => h3 e.symm) (fun e => h4 e.symm)
    exact ⟨h1, h2, fun e => h5 e.symm, fun e => h6 e.symm⟩
  · obtain ⟨h1, h2, h3, h4⟩ := hk k hx
    exact hf.block k (hX k hx).2 h1 h2 (fun e => h3 e.symm) (fun e => h4 e.symm)
theorem Hs.then_ (h : Hs w W g evs od X) (hb : Below W.heap.size W W') : Hs w W' g evs od X := by
  obtain ⟨hX, lb, cap, ob, oc, B, m, D, h, hk⟩ := h
  exact ⟨fun k hx => ⟨(hX k hx).1, Nat.lt_of_lt_of_le (hX k hx).2 hb.size⟩, lb, cap, ob, oc, B, m, D, h.then_ hb, hk⟩
theorem Hs.below (h : Hs w W g evs od X) : Below w.heap.size w W := by
  obtain ⟨_, lb, cap, ob, oc, B, m, D, h, _⟩ := h
  exact h.below
theorem Hs.sub (h : Hs w W g evs od X) (hs : ∀ k, Y k → X k) : Hs w W g evs od Y := by
  obtain ⟨hX, lb, cap, ob, oc, B, m, D, h, hk⟩ := h
  exact ⟨fun k hy => hX k (hs k hy), lb, cap, ob, oc, B, m, D, h, fun k hy => hk k (hs k hy)⟩
/-- Blocks that were made since are not the history's own. -/
theorem Hs.more (h : Hs w W g evs od X) (hb : Below W.heap.size W W') (hs : ∀ k, Y k → X k ∨ W.heap.size ≤ k ∧ k < W'.heap.size) : Hs w W' g evs od Y := by
  obtain ⟨hX, lb, cap, ob, oc, B, m, D, h, hk⟩ := h
  refine ⟨fun k hy => ?_, lb, cap, ob, oc, B, m, D, h.then_ hb, fun k hy => ?_⟩
  · rcases hs k hy with hx | ⟨h1, h2⟩
    · exact ⟨(hX k hx).1, Nat.lt_of_lt_of_le (hX k hx).2 hb.size⟩
    · exact ⟨Nat.le_trans h.below.size h1, h2⟩
  · rcases hs k hy with hx | ⟨h1, h2⟩
    · exact hk k hx
    · have a := bs_lt h.obj
      have b := h.map.lt
      exact ⟨by omega, by omega, fun e => by have := (own_ge h.ev k e).2; omega, fun e => by have := (own_ge h.ord k e).2; omega⟩
/-- A row that is not the history's own is turned. -/
theorem Hs.turn {row : Option Nat} (h : Hs w W g evs od X) (hg : W.grownBy W' row) (hr : ∀ b, row = some b → X b) (hs : ∀ k, Y k → X k ∨ W.heap.size ≤ k ∧ k < W'.heap.size) : Hs w W' g evs od Y := by
  obtain ⟨hX, lb, cap, ob, oc, B, m, D, h, hk⟩ := h
  refine ⟨fun k hy => ?_, lb, cap, ob, oc, B, m, D, h.grown hg (fun b e => ⟨(hX b (hr b e)).1, hk b (hr b e)⟩), fun k hy => ?_⟩
  · rcases hs k hy with hx | ⟨h1, h2⟩
    · exact ⟨(hX k hx).1, Nat.lt_of_lt_of_le (hX k hx).2 hg.size⟩
    · exact ⟨Nat.le_trans h.below.size h1, h2⟩
  · rcases hs k hy with hx | ⟨h1, h2⟩
    · exact hk k hx
    · have a := bs_lt h.obj
      have b := h.map.lt
      exact ⟨by omega, by omega, fun e => by have := (own_ge h.ev k e).2; omega, fun e => by have := (own_ge h.ord k e).2; omega⟩
theorem Keeps.cell (h : Keeps X W W') {k i : Nat} (hx : X k) : W'.cell? ⟨k, i, none⟩ = W.cell? ⟨k, i, none⟩ := World.cell?_of_block (h k hx)
theorem Keeps.refl (X : Nat → Prop) (W : World) : Keeps X W W := fun _ _ => rfl
theorem Keeps.trans {W2 : World} (h : Keeps X W W') (h2 : Keeps X W' W2) : Keeps X W W2 := fun k hx => (h2 k hx).trans (h k hx)
theorem Keeps.of_below (hX : ∀ k, X k → k < W.heap.size) (hb : Below W.heap.size W W') : Keeps X W W' := fun k hx => hb.block k (hX k hx)
theorem Hs.keeps (h : Hs w W g evs od X) (hb : Below W.heap.size W W') : Keeps X W W' := Keeps.of_below (fun k hx => (h.1 k hx).2) hb
end
/-- The place that a stamp tells, and the order behind it. -/
def stampI (od : List (Int × Int)) (s : Int × Int) : Nat := (place od s).getD od.length
def stampL (od : List (Int × Int)) (s : Int × Int) : List (Int × Int) := if (place od s).isSome then od else od ++ [s]
theorem s_new (w : World) : Calls Try.prog 6 #[] w fun e W' => ∃ g, e = .returned (.pointer (some ⟨g, 0, none⟩)) ∧ Hs w W' g [] [] (fun _ => False) :=
  (new_calls w).mono fun e W' ⟨g, B, h1, h2⟩ => ⟨g, h1, fun k hx => hx.elim, _, _, _, _, _, _, _, h2, fun k hx => hx.elim⟩
section
variable (w W : World) (g : Nat) (evs : List Ev) (od : List (Int × Int)) (X : Nat → Prop) (h : Hs w W g evs od X)
include h
theorem s_call (t n : Int) (hl : evs.length ≤ 1000000) : Calls Try.prog 11 #[.pointer (some ⟨g, 0, none⟩), .int .i64 t, .int .i64 n] W fun e W' => e = .returned (.tuple #[]) ∧ Hs w W' g (evs ++ [(t, n, 1, 0)]) od X ∧ Keeps X W W' := by
  obtain ⟨hX, lb, cap, ob, oc, B, m, D, h, hk⟩ := h
  exact (call_calls t n w W g lb cap ob oc B m evs od D h hl).mono fun e W' ⟨h1, lb', cap', h2, h3⟩ => ⟨h1, Hs.step hX hk h2 h3⟩
theorem s_reply (t n win : Int) (hl : evs.length ≤ 1000000) : Calls Try.prog 12 #[.pointer (some ⟨g, 0, none⟩), .int .i64 t, .int .i64 n, rep win] W fun e W' => e = .returned (.tuple #[]) ∧ Hs w W' g (evs ++ [(t, n, 2, win)]) od X ∧ Keeps X W W' := by
  obtain ⟨hX, lb, cap, ob, oc, B, m, D, h, hk⟩ := h
  exact (reply_calls t n win w W g lb cap ob oc B m evs od D h hl).mono fun e W' ⟨h1, lb', cap', h2, h3⟩ => ⟨h1, Hs.step hX hk h2 h3⟩
theorem s_stamp (t n : Int) (ht : wfI t) (hn : wfI n) (hl : od.length ≤ 1000000) : Calls Try.prog 7 #[.pointer (some ⟨g, 0, none⟩), .int .i64 t, .int .i64 n] W fun e W' => e = .returned (.int .i64 (stampI od (t, n) : Int)) ∧ Hs w W' g evs (stampL od (t, n)) X ∧ Keeps X W W' := by
  have h0 := h
  obtain ⟨hX, lb, cap, ob, oc, B, m, D, h, hk⟩ := h
  unfold stampI stampL
  cases hp : place od (t, n) with
  | none => exact (stamp_new t n w W g lb cap ob oc B m evs od D ht hn h hp hl).mono fun e W' ⟨h1, ob', oc', D', h2, h3⟩ => ⟨h1, Hs.step hX hk h2 h3⟩
  | some k => exact (stamp_old t n w W g lb cap ob oc B m evs od D k ht hn h hp).mono fun e W' ⟨h1, h2⟩ => ⟨h1, h0.then_ h2, h0.keeps h2⟩
theorem s_events (hl : evs.length ≤ 1000000) : Calls Try.prog 9 #[.pointer (some ⟨g, 0, none⟩)] W fun e W' => ∃ lb' cap', e = .returned (sl lb' evs.length cap') ∧ Own W' W.heap.size 49 12 lb' evs.length cap' (flatE evs) ∧ Below W.heap.size W W' := by
  obtain ⟨hX, lb, cap, ob, oc, B, m, D, h, hk⟩ := h
  exact events_calls w W g lb cap ob oc B m evs od D h hl
theorem s_order (hl : od.length ≤ 1000000) : Calls Try.prog 8 #[.pointer (some ⟨g, 0, none⟩)] W fun e W' => ∃ lb' cap', e = .returned (sl lb' od.length cap') ∧ Own W' W.heap.size 28 2 lb' od.length cap' (flatS od) ∧ Below W.heap.size W W' := by
  obtain ⟨hX, lb, cap, ob, oc, B, m, D, h, hk⟩ := h
  exact order_calls w W g lb cap ob oc B m evs od D h hl
theorem s_before (t n u k : Int) (hl : evs.length ≤ 1000000) : Calls Try.prog 13 #[.pointer (some ⟨g, 0, none⟩), .int .i64 t, .int .i64 n, .int .i64 u, .int .i64 k] W fun e W' => e = .returned (.bool (befB evs t n u k)) ∧ Below W.heap.size W W' := by
  obtain ⟨hX, lb, cap, ob, oc, B, m, D, h, hk⟩ := h
  exact before_calls t n u k w W g lb cap ob oc B m evs od D h hl
end
abbrev E4 : List Ev := [(0, 0, 1, 0), (1, 0, 1, 0), (1, 0, 2, 5), (2, 0, 1, 0)]
abbrev O2 : List (Int × Int) := [(1, 0), (0, 0)]
section
variable (w W : World) (g : Nat)
theorem a1 (h : Hs w W g [] [] (fun _ => False)) : Calls Try.prog 11 #[.pointer (some ⟨g, 0, none⟩), .int .i64 0, .int .i64 0] W fun e W' => e = .returned (.tuple #[]) ∧ Hs w W' g [(0, 0, 1, 0)] [] (fun _ => False) := (s_call w W g _ _ _ h 0 0 (by decide)).mono fun e W' ⟨h1, h2, _⟩ => ⟨h1, h2⟩
theorem a2 (h : Hs w W g [(0, 0, 1, 0)] [] (fun _ => False)) : Calls Try.prog 11 #[.pointer (some ⟨g, 0, none⟩), .int .i64 1, .int .i64 0] W fun e W' => e = .returned (.tuple #[]) ∧ Hs w W' g [(0, 0, 1, 0), (1, 0, 1, 0)] [] (fun _ => False) := (s_call w W g _ _ _ h 1 0 (by decide)).mono fun e W' ⟨h1, h2, _⟩ => ⟨h1, h2⟩
theorem a3 (h : Hs w W g [(0, 0, 1, 0), (1, 0, 1, 0)] [] (fun _ => False)) : Calls Try.prog 7 #[.pointer (some ⟨g, 0, none⟩), .int .i64 1, .int .i64 0] W fun e W' => e = .returned (.int .i64 0) ∧ Hs w W' g [(0, 0, 1, 0), (1, 0, 1, 0)] [(1, 0)] (fun _ => False) := (s_stamp w W g _ _ _ h 1 0 (wf_of (by omega) (by omega)) (wf_of (by omega) (by omega)) (by decide)).mono fun e W' ⟨h1, h2, _⟩ => ⟨h1, h2⟩
theorem a4 (h : Hs w W g [(0, 0, 1, 0), (1, 0, 1, 0)] [(1, 0)] (fun _ => False)) : Calls Try.prog 7 #[.pointer (some ⟨g, 0, none⟩), .int .i64 0, .int .i64 0] W fun e W' => e = .returned (.int .i64 1) ∧ Hs w W' g [(0, 0, 1, 0), (1, 0, 1, 0)] O2 (fun _ => False) := (s_stamp w W g _ _ _ h 0 0 (wf_of (by omega) (by omega)) (wf_of (by omega) (by omega)) (by decide)).mono fun e W' ⟨h1, h2, _⟩ => ⟨h1, h2⟩
theorem a5 (h : Hs w W g [(0, 0, 1, 0), (1, 0, 1, 0)] O2 (fun _ => False)) : Calls Try.prog 7 #[.pointer (some ⟨g, 0, none⟩), .int .i64 1, .int .i64 0] W fun e W' => e = .returned (.int .i64 0) ∧ Hs w W' g [(0, 0, 1, 0), (1, 0, 1, 0)] O2 (fun _ => False) := (s_stamp w W g _ _ _ h 1 0 (wf_of (by omega) (by omega)) (wf_of (by omega) (by omega)) (by decide)).mono fun e W' ⟨h1, h2, _⟩ => ⟨h1, h2⟩
theorem a6 (h : Hs w W g [(0, 0, 1, 0), (1, 0, 1, 0)] O2 (fun _ => False)) : Calls Try.prog 12 #[.pointer (some ⟨g, 0, none⟩), .int .i64 1, .int .i64 0, rep 5] W fun e W' => e = .returned (.tuple #[]) ∧ Hs w W' g [(0, 0, 1, 0), (1, 0, 1, 0), (1, 0, 2, 5)] O2 (fun _ => False) := (s_reply w W g _ _ _ h 1 0 5 (by decide)).mono fun e W' ⟨h1, h2, _⟩ => ⟨h1, h2⟩
theorem a7 (h : Hs w W g [(0, 0, 1, 0), (1, 0, 1, 0), (1, 0, 2, 5)] O2 (fun _ => False)) : Calls Try.prog 11 #[.pointer (some ⟨g, 0, none⟩), .int .i64 2, .int .i64 0] W fun e W' => e = .returned (.tuple #[]) ∧ Hs w W' g E4 O2 (fun _ => False) := (s_call w W g _ _ _ h 2 0 (by decide)).mono fun e W' ⟨h1, h2, _⟩ => ⟨h1, h2⟩
theorem a8 (h : Hs w W g E4 O2 (fun _ => False)) : Calls Try.prog 9 #[.pointer (some ⟨g, 0, none⟩)] W fun e W' => ∃ b c, e = .returned (.slice (some ⟨b, 0, none⟩) 4 c) ∧ W'.cell? ⟨b, 26, none⟩ = some (.int .i64 2) ∧ W'.cell? ⟨b, 28, none⟩ = some (.int .i64 5) ∧ Below W.heap.size W W' :=
  (s_events w W g _ _ _ h (by decide)).mono fun e W' ⟨lb, cap, h1, h2, h3⟩ => by
    obtain ⟨b, rfl, _, hc⟩ := ev_cells (i := 2) h2 rfl
    exact ⟨b, cap, h1, hc 2 (by omega) _ rfl, hc 4 (by omega) _ rfl, h3⟩
theorem a9 (h : Hs w W g E4 O2 (fun _ => False)) : Calls Try.prog 8 #[.pointer (some ⟨g, 0, none⟩)] W fun e W' => ∃ b c, e = .returned (.slice (some ⟨b, 0, none⟩) 2 c) ∧ W'.cell? ⟨b, 0, none⟩ = some (.int .i64 1) ∧ W'.cell? ⟨b, 1, none⟩ = some (.int .i64 0) ∧ Below W.heap.size W W' :=
  (s_order w W g _ _ _ h (by decide)).mono fun e W' ⟨lb, cap, h1, h2, h3⟩ => by
    obtain ⟨b, rfl, _, hc1, hc2⟩ := sp_cells (i := 0) h2 rfl
    exact ⟨b, cap, h1, hc1, hc2, h3⟩
theorem b1 (h : Hs w W g E4 O2 (fun _ => False)) : Calls Try.prog 13 #[.pointer (some ⟨g, 0, none⟩), .int .i64 1, .int .i64 0, .int .i64 2, .int .i64 0] W fun e W' => e = .returned (.bool true) ∧ Below W.heap.size W W' := s_before w W g _ _ _ h 1 0 2 0 (by decide)
theorem b2 (h : Hs w W g E4 O2 (fun _ => False)) : Calls Try.prog 13 #[.pointer (some ⟨g, 0, none⟩), .int .i64 0, .int .i64 0, .int .i64 2, .int .i64 0] W fun e W' => e = .returned (.bool false) ∧ Below W.heap.size W W' := s_before w W g _ _ _ h 0 0 2 0 (by decide)
theorem b3 (h : Hs w W g E4 O2 (fun _ => False)) : Calls Try.prog 13 #[.pointer (some ⟨g, 0, none⟩), .int .i64 2, .int .i64 0, .int .i64 1, .int .i64 0] W fun e W' => e = .returned (.bool false) ∧ Below W.heap.size W W' := s_before w W g _ _ _ h 2 0 1 0 (by decide)
end
set_option maxHeartbeats 16000000 in
set_option maxRecDepth 100000 in
theorem awake_calls (w : World) : Calls Try.prog 10 #[] w fun e w' => e = .returned (.bool true) ∧ Below w.heap.size w w' := by
  have HN := hide (s_new w)
  go_enter Try.func10, Try.ntmps10
  go_wp2_with (first
    | (go_at_call 6; (with_reducible refine HN.out.mono ?_); rintro e W1 ⟨g, rfl, P⟩; have P1 := hide P; clear P)
    | (go_at_call 11; (with_reducible refine (a1 w W1 g P1.out).mono ?_); rintro e W2 ⟨rfl, P⟩; have P2 := hide P; clear P)
    | (go_at_call 11; (with_reducible refine (a2 w W2 g P2.out).mono ?_); rintro e W3 ⟨rfl, P⟩; have P3 := hide P; clear P)
    | (go_at_call 7; (with_reducible refine (a3 w W3 g P3.out).mono ?_); rintro e W4 ⟨rfl, P⟩; have P4 := hide P; clear P)
    | (go_at_call 7; (with_reducible refine (a4 w W4 g P4.out).mono ?_); rintro e W5 ⟨rfl, P⟩; have P5 := hide P; clear P)
    | (go_at_call 7; (with_reducible refine (a5 w W5 g P5.out).mono ?_); rintro e W6 ⟨rfl, P⟩; have P6 := hide P; clear P)
    | (go_at_call 12; (with_reducible refine (a6 w W6 g P6.out).mono ?_); rintro e W7 ⟨rfl, P⟩; have P7 := hide P; clear P)
    | (go_at_call 11; (with_reducible refine (a7 w W7 g P7.out).mono ?_); rintro e W8 ⟨rfl, P⟩; have P8 := hide P; clear P)
    | (go_at_call 9; (with_reducible refine (a8 w W8 g P8.out).mono ?_); rintro e W9 ⟨b9, c9, rfl, x1, x2, hb⟩; have P9 := hide (P8.out.then_ hb); have s9 := World.block_lt_of_cell? _ _ x1; clear hb)
    | (go_at_call 8; (with_reducible refine (a9 w W9 g P9.out).mono ?_); rintro e W10 ⟨b10, c10, rfl, y1, y2, hb⟩; have P10 := hide (P9.out.then_ hb); have x1 := (hb.cell (p := ⟨b9, 26, none⟩) s9).trans x1; have x2 := (hb.cell (p := ⟨b9, 28, none⟩) s9).trans x2; clear hb)
    | (go_at_call 13; (with_reducible refine (b1 w W10 g P10.out).mono ?_); rintro e W11 ⟨rfl, hb⟩; have P11 := hide (P10.out.then_ hb); clear hb)
    | (go_at_call 13; (with_reducible refine (b2 w W11 g P11.out).mono ?_); rintro e W12 ⟨rfl, hb⟩; have P12 := hide (P11.out.then_ hb); clear hb)
    | (go_at_call 13; (with_reducible refine (b3 w W12 g P12.out).mono ?_); rintro e W13 ⟨rfl, hb⟩; have P13 := hide (P12.out.then_ hb); clear hb))
  go_ret
  exact ⟨rfl, P13.out.below⟩
end Go.Proofs.Ytkdfdcppeolbjaa.HistAwake


