/- Epochs: the state of a value of epoc.Epochs, and what the functions of the package epoc do with it that turn no row of what waits: contracts, for every state, without a condition of their own. -/
import Derived.WalkKit
import Derived.KernelRfl
import Derived.StillTailTactics
import Derived.Deep.MidRow
import Derived.Deep.RegionHeld3
import Derived.Deep.AppendLies
import Derived.Laws.MakeOwn
import Derived.Laws.Rows
import Derived.Laws.OwnMore
import Derived.Test.YtnpeklimpdljbaaKit
import Derived.Test.YtnpeklimpdljbaaWWords
import Derived.Test.YtnpeklimpdljbaaWLast
import Derived.Test.YtnpeklimpdljbaaProg
namespace Go.Proofs.Ytnpeklimpdljbaa.EpocBase
open Go.RowKit Go.Proofs.YtnpeklimpdljbaaKit Go.Proofs.YtnpeklimpdljbaaW.PrintWords Go.Proofs.YtnpeklimpdljbaaW.PrintLast
attribute [local go_sem] cell_alloc_some cell_alloc2_some cell_alloc3_some cell_alloc4_some
set_option linter.unusedVariables false
set_option linter.unusedSimpArgs false
def flat (xs : List (Int × Int)) : List Value := xs.flatMap fun x => [.int .i64 x.1, .int .i64 x.2]
theorem flat_cons (b : Int × Int) (bs : List (Int × Int)) : flat (b :: bs) = [.int .i64 b.1, .int .i64 b.2] ++ flat bs := by simp [flat]
theorem flat_append (a b : List (Int × Int)) : flat (a ++ b) = flat a ++ flat b := by simp [flat]
theorem flat_len (bs : List (Int × Int)) : (flat bs).length = bs.length * 2 := by
  induction bs with
  | nil => rfl
  | cons b bs ih => rw [flat_cons, List.length_append, ih]; simp; omega
theorem flat_get (bs : List (Int × Int)) (i : Nat) (b : Int × Int) (hb : bs[i]? = some b) : (flat bs)[i * 2]? = some (.int .i64 b.1) ∧ (flat bs)[i * 2 + 1]? = some (.int .i64 b.2) := by
  induction bs generalizing i with
  | nil => simp at hb
  | cons b0 bs ih =>
    rw [flat_cons]
    cases i with
    | zero => simp at hb; subst hb; simp
    | succ i =>
      simp at hb
      have h := ih i hb
      rw [List.getElem?_append_right (by simp; omega), List.getElem?_append_right (by simp; omega)]
      simp only [List.length_cons, List.length_nil]
      rw [show (i + 1) * 2 - (0 + 1 + 1) = i * 2 by omega, show (i + 1) * 2 + 1 - (0 + 1 + 1) = i * 2 + 1 by omega]
      exact h
/-- A slice of numbers (or of pairs) at a block of its own. -/
def sl (lb : Option Nat) (n cap : Nat) : Value := .slice (lb.map fun b => ⟨b, 0, none⟩) n cap
/-- What is owned. -/
structure Own (W : World) (base : Nat) (e : TypeId) (k : Nat) (lb : Option Nat) (n cap : Nat) (xs : List Value) : Prop where
  owns : W.ownsRow base e k (sl lb n cap) n xs
theorem Own.cases {W : World} {base : Nat} {e : TypeId} {k : Nat} {lb : Option Nat} {n cap : Nat} {xs : List Value} (h : Own W base e k lb n cap xs) :
    (lb = none ∧ n = 0 ∧ cap = 0 ∧ xs = []) ∨ ∃ b cur, lb = some b ∧ base ≤ b ∧ W.heap[b]? = some (.cells cur e (0, 0)) ∧ cur.toList.take (n * k) = xs ∧ n * k ≤ cur.size := by
  obtain ⟨hl, h1 | ⟨g, cap', cur, hv, hg, hb, hn, hc, hs, ht⟩⟩ := h.owns
  · refine .inl ?_
    obtain ⟨hv, h0⟩ := h1
    cases lb with
    | none => simp [sl] at hv; exact ⟨rfl, h0, hv.2, List.eq_nil_of_length_eq_zero (by rw [hl, h0, Nat.zero_mul])⟩
    | some b => simp [sl] at hv
  · refine .inr ?_
    cases lb with
    | none => simp [sl] at hv
    | some b =>
      simp [sl] at hv
      obtain ⟨rfl, rfl⟩ := hv
      exact ⟨b, cur, rfl, hg, hb, ht, by rw [hs]; exact Nat.mul_le_mul_right _ hn⟩
theorem Own.keep {W W' : World} {base : Nat} {e : TypeId} {k : Nat} {lb : Option Nat} {n cap : Nat} {xs : List Value} (h : Own W base e k lb n cap xs) (hk : ∀ b, lb = some b → b < W.heap.size → W'.heap[b]? = W.heap[b]?) : Own W' base e k lb n cap xs := by
  obtain ⟨hl, h1 | ⟨g, cap', cur, hv, hg, hb, hn, hc, hs, ht⟩⟩ := h.owns
  · exact ⟨hl, .inl h1⟩
  · refine ⟨hl, .inr ⟨g, cap', cur, hv, hg, ?_, hn, hc, hs, ht⟩⟩
    cases lb with
    | none => simp [sl] at hv
    | some b =>
      simp [sl] at hv
      obtain ⟨rfl, rfl⟩ := hv
      rw [hk b rfl (bs_lt hb)]; exact hb
theorem Own.base {W : World} {base base' : Nat} {e : TypeId} {k : Nat} {lb : Option Nat} {n cap : Nat} {xs : List Value} (h : Own W base e k lb n cap xs) (hb : base' ≤ base) : Own W base' e k lb n cap xs := by
  obtain ⟨hl, h1 | ⟨g, cap', cur, hv, hg, hb2, hn, hc, hs, ht⟩⟩ := h.owns
  · exact ⟨hl, .inl h1⟩
  · exact ⟨hl, .inr ⟨g, cap', cur, hv, by omega, hb2, hn, hc, hs, ht⟩⟩
theorem Own.below {W W' : World} {base : Nat} {e : TypeId} {k : Nat} {lb : Option Nat} {n cap : Nat} {xs : List Value} (h : Own W base e k lb n cap xs) (hb : Below W.heap.size W W') : Own W' base e k lb n cap xs := h.keep fun b _ hlt => hb.block b hlt
theorem Own.nil (W : World) (base : Nat) (e : TypeId) (k : Nat) : Own W base e k none 0 0 [] := ⟨World.ownsRow_nil _ _ _ _⟩
theorem Own.of {W : World} {base : Nat} {e : TypeId} {k : Nat} {v : Value} {n : Nat} {xs : List Value} (h : W.ownsRow base e k v n xs) : ∃ lb cap, v = sl lb n cap ∧ Own W base e k lb n cap xs := by
  have h' := h
  obtain ⟨hl, ⟨hv, h0⟩ | ⟨g, cap', cur, hv, hg, hb, hn, hc, hs, ht⟩⟩ := h'
  · subst hv h0; exact ⟨none, 0, rfl, ⟨h⟩⟩
  · subst hv; exact ⟨some g, cap', rfl, ⟨h⟩⟩
theorem Own.len {W : World} {base : Nat} {e : TypeId} {k : Nat} {lb : Option Nat} {n cap : Nat} {xs : List Value} (h : Own W base e k lb n cap xs) : xs.length = n * k := h.owns.1
theorem Own.cell {W : World} {base : Nat} {e : TypeId} {k : Nat} {lb : Option Nat} {n cap : Nat} {xs : List Value} (h : Own W base e k lb n cap xs) (hn : 0 < n) (i : Nat) (v : Value) (hv : xs[i]? = some v) : ∃ b, lb = some b ∧ b < W.heap.size ∧ base ≤ b ∧ W.cell? ⟨b, i, none⟩ = some v := by
  rcases h.cases with ⟨_, h0, _⟩ | ⟨b, cur, rfl, hg, hb, ht, _⟩
  · omega
  · refine ⟨b, rfl, bs_lt hb, hg, ?_⟩
    rw [bs_cell hb, ← hv, ← ht, List.getElem?_take]
    have : i < n * k := by
      have := (List.getElem?_eq_some_iff.1 hv).1
      rw [h.len] at this; exact this
    rw [if_pos this, Array.getElem?_toList]
/-- The epochs at block g; pins at pb, what waits at lb. w: the world that the law began in. -/
structure Ep (w W : World) (g pb : Nat) (lb : Option Nat) (cap : Nat) (now : Int) (ps : List Int) (xs : List (Int × Int)) : Prop where
  obj : W.heap[g]? = some (.cells #[.int .i64 now, .slice (some ⟨pb, 0, none⟩) ps.length ps.length, sl lb xs.length cap] 47 (0, 0))
  pins : W.heap[pb]? = some (.cells (ps.map (.int .i64)).toArray 3 (0, 0))
  own : Own W (g + 1) 49 2 lb xs.length cap (flat xs)
  lt : pb < g
  ge : w.heap.size ≤ pb
  below : Below w.heap.size w W
section
variable {w W W' : World} {g pb : Nat} {lb : Option Nat} {cap : Nat} {now : Int} {ps : List Int} {xs : List (Int × Int)}
theorem Ep.below_then (h : Ep w W g pb lb cap now ps xs) (hb : Below W.heap.size W W') : Ep w W' g pb lb cap now ps xs :=
  ⟨bs_below hb (bs_lt h.obj) h.obj, bs_below hb (bs_lt h.pins) h.pins, h.own.below hb, h.lt, h.ge, be_call hb h.below.size h.below⟩
theorem Ep.drew (h : Ep w W g pb lb cap now ps xs) : Ep w W.drew g pb lb cap now ps xs := h.below_then (be_drew (be_refl _))
theorem Ep.alloc (h : Ep w W g pb lb cap now ps xs) (o : Obj) : Ep w (W.alloc o) g pb lb cap now ps xs := h.below_then (be_alloc (be_refl _) (Nat.le_refl _))
theorem Ep.c (h : Ep w W g pb lb cap now ps xs) : W.cell? ⟨g, 0, none⟩ = some (.int .i64 now) ∧ W.cell? ⟨g, 1, none⟩ = some (.slice (some ⟨pb, 0, none⟩) ps.length ps.length) ∧ W.cell? ⟨g, 2, none⟩ = some (sl lb xs.length cap) :=
  ⟨(bs_cell h.obj 0).trans rfl, (bs_cell h.obj 1).trans rfl, (bs_cell h.obj 2).trans rfl⟩
theorem Ep.pin (h : Ep w W g pb lb cap now ps xs) (i : Nat) (p : Int) (hp : ps[i]? = some p) : W.cell? ⟨pb, i, none⟩ = some (.int .i64 p) := by
  rw [bs_cell h.pins i, List.getElem?_toArray, List.getElem?_map, hp]; rfl
theorem Ep.set_now (h : Ep w W g pb lb cap now ps xs) (n : Int) : Ep w (W.setCell ⟨g, 0, none⟩ (.int .i64 n)) g pb lb cap n ps xs := by
  have hlt := h.lt
  have hge := h.ge
  refine ⟨?_, bs_far h.pins (by simp; omega), ?_, h.lt, h.ge, be_set h.below (by simp; omega)⟩
  · have := bs_same (i := 0) (v := .int .i64 n) h.obj
    simpa using this
  · refine h.own.keep fun b hb _ => ?_
    rcases h.own.cases with ⟨h1, _⟩ | ⟨b', cur, h1, h2, _⟩
    · rw [h1] at hb; cases hb
    · rw [hb] at h1; cases h1
      exact Below.heap_setCell W _ _ b (by simp; omega)
theorem Ep.set_pin (h : Ep w W g pb lb cap now ps xs) (i : Nat) (n : Int) : Ep w (W.setCell ⟨pb, i, none⟩ (.int .i64 n)) g pb lb cap now (ps.set i n) xs := by
  have hlt := h.lt
  have hge := h.ge
  refine ⟨?_, ?_, ?_, h.lt, h.ge, be_set h.below (by simp; omega)⟩
  · rw [List.length_set]
    exact bs_far h.obj (by simp; omega)
  · have := bs_same (i := i) (v := .int .i64 n) h.pins
    rw [List.map_set]
    simpa using this
  · refine h.own.keep fun b hb _ => ?_
    rcases h.own.cases with ⟨h1, _⟩ | ⟨b', cur, h1, h2, _⟩
    · rw [h1] at hb; cases hb
    · rw [hb] at h1; cases h1
      exact Below.heap_setCell W _ _ b (by simp; omega)
end
/-- What stays: every block that was there, but the epochs' own. -/
structure Fr (g pb : Nat) (W : World) (lb : Option Nat) (W' : World) (lb' : Option Nat) : Prop where
  block : ∀ k, k < W.heap.size → k ≠ g → k ≠ pb → some k ≠ lb → W'.heap[k]? = W.heap[k]?
  own : ∀ k, k < W.heap.size → some k ≠ lb → some k ≠ lb'
  size : W.heap.size ≤ W'.heap.size
theorem Fr.of_below {g pb : Nat} {W W' : World} {lb : Option Nat} (h : Below W.heap.size W W') : Fr g pb W lb W' lb := ⟨fun k hk _ _ _ => h.block k hk, fun k _ h => h, h.size⟩
theorem Fr.trans {g pb : Nat} {W W' W2 : World} {lb lb' lb2 : Option Nat} (h : Fr g pb W lb W' lb') (h2 : Fr g pb W' lb' W2 lb2) : Fr g pb W lb W2 lb2 :=
  ⟨fun k hk a b c => (h2.block k (Nat.lt_of_lt_of_le hk h.size) a b (h.own k hk c)).trans (h.block k hk a b c), fun k hk c => h2.own k (Nat.lt_of_lt_of_le hk h.size) (h.own k hk c), Nat.le_trans h.size h2.size⟩
theorem has_calls (i : Int) (w W : World) (g pb : Nat) (lb : Option Nat) (cap : Nat) (now : Int) (ps : List Int) (xs : List (Int × Int)) (h : Ep w W g pb lb cap now ps xs) :
    Calls Try.prog 23 #[.pointer (some ⟨g, 0, none⟩), .int .i64 i] W fun e W' => e = .returned (.bool (decide (0 ≤ i) && decide (i < ps.length))) ∧ W' = W := by
  have c0 := h.c.2.1
  generalize ps.length = n at *
  clear h
  go_enter Try.func23, Try.ntmps23
  go_wp2
  all_goals go_ret
  all_goals (refine ⟨?_, rfl⟩; first | (simp [*]; done) | (simp [*]; omega))
theorem now_calls (w W : World) (g pb : Nat) (lb : Option Nat) (cap : Nat) (now : Int) (ps : List Int) (xs : List (Int × Int)) (h : Ep w W g pb lb cap now ps xs) :
    Calls Try.prog 11 #[.pointer (some ⟨g, 0, none⟩)] W fun e W' => e = .returned (.int .i64 now) ∧ W' = W := by
  have c0 := h.c.1
  clear h
  go_enter Try.func11, Try.ntmps11
  go_wp2
  go_ret
  exact ⟨rfl, rfl⟩
/-- At which epoch a thread is pinned; below 0: it is not. -/
def pinOf (ps : List Int) (i : Int) : Int := if 0 ≤ i then (ps[i.toNat]?).getD 0 - 1 else -1
theorem pinned_no (i : Int) (w W : World) (g pb : Nat) (lb : Option Nat) (cap : Nat) (now : Int) (ps : List Int) (xs : List (Int × Int)) (h : Ep w W g pb lb cap now ps xs) (hp : ¬ (0 ≤ i) ∨ (ps[i.toNat]?).getD 0 = 0) :
    Calls Try.prog 15 #[.pointer (some ⟨g, 0, none⟩), .int .i64 i] W fun e W' => e = .returned (.tuple #[.int .i64 0, .bool false]) ∧ W' = W := by
  have H := hide (has_calls i w W g pb lb cap now ps xs h)
  by_cases hin : 0 ≤ i ∧ i < ps.length
  · obtain ⟨h0, h1⟩ := hin
    have hd : (decide (0 ≤ i) && decide (i < ps.length)) = true := by simp; omega
    rw [hd] at H
    obtain ⟨c0, c1, c2⟩ := h.c
    have hq : ps[i.toNat]? = some 0 := by
      have hl : i.toNat < ps.length := by omega
      rw [List.getElem?_eq_getElem hl] at hp ⊢
      simp only [Option.getD_some] at hp
      rcases hp with h | h
      · exact absurd h0 h
      · rw [h]
    have x0 := h.pin i.toNat 0 hq
    clear hd h hp hq c0 c2
    go_enter Try.func15, Try.ntmps15
    go_wp2_with (go_at_call 23; with_reducible refine H.out.mono ?_; rintro e v ⟨rfl, hv⟩; subst v)
    go_ret2
    exact ⟨rfl, rfl⟩
  · have hd : (decide (0 ≤ i) && decide (i < ps.length)) = false := by simp; omega
    rw [hd] at H
    clear hd h hp hin
    go_enter Try.func15, Try.ntmps15
    go_wp2_with (go_at_call 23; with_reducible refine H.out.mono ?_; rintro e v ⟨rfl, hv⟩; subst v)
    go_ret2
    exact ⟨rfl, rfl⟩
theorem pinned_yes (i p : Int) (w W : World) (g pb : Nat) (lb : Option Nat) (cap : Nat) (now : Int) (ps : List Int) (xs : List (Int × Int)) (h : Ep w W g pb lb cap now ps xs) (h0 : 0 ≤ i) (hp : ps[i.toNat]? = some p) (hp1 : 0 < p) (hp2 : p ≤ 1000000) :
    Calls Try.prog 15 #[.pointer (some ⟨g, 0, none⟩), .int .i64 i] W fun e W' => e = .returned (.tuple #[.int .i64 (p - 1), .bool true]) ∧ W' = W := by
  have H := hide (has_calls i w W g pb lb cap now ps xs h)
  have hl : i.toNat < ps.length := (List.getElem?_eq_some_iff.1 hp).1
  have hd : (decide (0 ≤ i) && decide (i < ps.length)) = true := by simp; omega
  rw [hd] at H
  obtain ⟨c0, c1, c2⟩ := h.c
  have x0 := h.pin i.toNat p hp
  have h1 : i < (ps.length : Int) := by omega
  have hne : (p = 0) = False := eq_false (by omega)
  have hw : wrap64 (p - 1) = p - 1 := by unfold wrap64; omega
  clear hd h hp c0 c2
  go_enter Try.func15, Try.ntmps15
  go_wp2_with (go_at_call 23; with_reducible refine H.out.mono ?_; rintro e v ⟨rfl, hv⟩; subst v)
  go_ret2
  exact ⟨rfl, rfl⟩
end Go.Proofs.Ytnpeklimpdljbaa.EpocBase

