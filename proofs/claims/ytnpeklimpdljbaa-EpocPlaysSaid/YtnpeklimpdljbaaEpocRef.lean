/- The reference's epochs: their state, and what its functions do with it: contracts, for every state. -/
import Derived.Deep.DrawnRows
import Derived.Test.YtnpeklimpdljbaaEpocUse
namespace Go.Proofs.Ytnpeklimpdljbaa.EpocRef
open Go.RowKit Go.Proofs.YtnpeklimpdljbaaKit Go.Proofs.YtnpeklimpdljbaaW.PrintWords Go.Proofs.YtnpeklimpdljbaaW.PrintLast Go.Proofs.Ytnpeklimpdljbaa.EpocBase Go.Proofs.Ytnpeklimpdljbaa.EpocOps Go.Proofs.Ytnpeklimpdljbaa.EpocRows Go.Proofs.Ytnpeklimpdljbaa.EpocAdv Go.Proofs.Ytnpeklimpdljbaa.EpocUse
attribute [local go_sem] cell_alloc_some cell_alloc2_some cell_alloc3_some cell_alloc4_some
attribute [local go_sem ↓] Go.wp_at_zero Go.wp_at_succ
set_option linter.unusedVariables false
set_option linter.unusedSimpArgs false
/-- A row of numbers that is owned: its block, its capacity. -/
abbrev Row (W : World) (base : Nat) (q : Option Nat) (c : Nat) (l : List Int) : Prop := Own W base 3 1 q l.length c (intsOf l)
/-- The reference's epochs at block h. -/
structure Rf (w W : World) (h : Nat) (q r s : Option Nat) (qc rc sc : Nat) (now : Int) (ps L T : List Int) : Prop where
  obj : W.heap[h]? = some (.cells #[.int .i64 now, sl q ps.length qc, sl r L.length rc, sl s T.length sc] 42 (0, 0))
  pins : Row W (h + 1) q qc ps
  l : Row W (h + 1) r rc L
  when : Row W (h + 1) s sc T
  qr : ∀ b, q = some b → r ≠ some b
  qs : ∀ b, q = some b → s ≠ some b
  rs : ∀ b, r = some b → s ≠ some b
  ge : w.heap.size ≤ h
  below : Below w.heap.size w W
/-- What stays. -/
structure Fq (h : Nat) (W : World) (q r s : Option Nat) (W' : World) (q' r' s' : Option Nat) : Prop where
  block : ∀ k, k < W.heap.size → k ≠ h → some k ≠ q → some k ≠ r → some k ≠ s → W'.heap[k]? = W.heap[k]?
  own : ∀ k, k < W.heap.size → some k ≠ q → some k ≠ r → some k ≠ s → some k ≠ q' ∧ some k ≠ r' ∧ some k ≠ s'
  size : W.heap.size ≤ W'.heap.size
section
variable {w W W' : World} {h : Nat} {q r s : Option Nat} {qc rc sc : Nat} {now : Int} {ps L T : List Int}
theorem Rf.below_then (f : Rf w W h q r s qc rc sc now ps L T) (hb : Below W.heap.size W W') : Rf w W' h q r s qc rc sc now ps L T :=
  ⟨bs_below hb (bs_lt f.obj) f.obj, f.pins.below hb, f.l.below hb, f.when.below hb, f.qr, f.qs, f.rs, f.ge, be_call hb f.below.size f.below⟩
theorem Rf.drew (f : Rf w W h q r s qc rc sc now ps L T) : Rf w W.drew h q r s qc rc sc now ps L T := f.below_then (be_drew (be_refl _))
theorem Fq.of_below (hb : Below W.heap.size W W') : Fq h W q r s W' q r s := ⟨fun k hk _ _ _ _ => hb.block k hk, fun k _ a b c => ⟨a, b, c⟩, hb.size⟩
theorem Fq.trans {W2 : World} {q' r' s' q2 r2 s2 : Option Nat} (a : Fq h W q r s W' q' r' s') (b : Fq h W' q' r' s' W2 q2 r2 s2) : Fq h W q r s W2 q2 r2 s2 :=
  ⟨fun k hk h1 h2 h3 h4 => by
    obtain ⟨a1, a2, a3⟩ := a.own k hk h2 h3 h4
    exact (b.block k (Nat.lt_of_lt_of_le hk a.size) h1 a1 a2 a3).trans (a.block k hk h1 h2 h3 h4), fun k hk h2 h3 h4 => by
    obtain ⟨a1, a2, a3⟩ := a.own k hk h2 h3 h4
    exact b.own k (Nat.lt_of_lt_of_le hk a.size) a1 a2 a3, Nat.le_trans a.size b.size⟩
theorem Rf.c (f : Rf w W h q r s qc rc sc now ps L T) : W.cell? ⟨h, 0, none⟩ = some (.int .i64 now) ∧ W.cell? ⟨h, 1, none⟩ = some (sl q ps.length qc) ∧ W.cell? ⟨h, 2, none⟩ = some (sl r L.length rc) ∧ W.cell? ⟨h, 3, none⟩ = some (sl s T.length sc) :=
  ⟨(bs_cell f.obj 0).trans rfl, (bs_cell f.obj 1).trans rfl, (bs_cell f.obj 2).trans rfl, (bs_cell f.obj 3).trans rfl⟩
theorem Row.at_ {base : Nat} {c : Nat} {l : List Int} (o : Row W base q c l) {i : Nat} {z : Int} (hz : l[i]? = some z) : ∃ b, q = some b ∧ base ≤ b ∧ W.cell? ⟨b, i, none⟩ = some (.int .i64 z) := by
  have hl := (List.getElem?_eq_some_iff.1 hz).1
  obtain ⟨b, h1, _, h3, h4⟩ := Own.cell o (by omega) i (.int .i64 z) (by unfold intsOf; rw [List.getElem?_map, hz]; rfl)
  exact ⟨b, h1, h3, h4⟩
theorem Rf.pin (f : Rf w W h q r s qc rc sc now ps L T) {i : Nat} {z : Int} (hz : ps[i]? = some z) : ∃ b, q = some b ∧ h + 1 ≤ b ∧ W.cell? ⟨b, i, none⟩ = some (.int .i64 z) ∧ W.frozen? ⟨b, i, none⟩ = false := by
  obtain ⟨b, h1, h2, h3⟩ := Row.at_ f.pins hz
  subst h1
  rcases f.pins.cases with ⟨e, _⟩ | ⟨b', cur, e, _, hb, _⟩
  · cases e
  · cases e
    exact ⟨b, rfl, h2, h3, bs_frozen hb i⟩
theorem own_set {base : Nat} {e : TypeId} {k b n cap i : Nat} {xs : List Value} (o : Own W base e k (some b) n cap xs) (v : Value) : Own (W.setCell ⟨b, i, none⟩ v) base e k (some b) n cap (xs.set i v) := by
  obtain ⟨hl, h1 | ⟨g, cap', cur, hv, hg, hb, hn, hc, hs, ht⟩⟩ := o.owns
  · obtain ⟨hv, _⟩ := h1; simp [sl] at hv
  · have hv' := hv
    simp [sl] at hv'
    obtain ⟨rfl, rfl⟩ := hv'
    refine ⟨by rw [List.length_set]; exact hl, .inr ⟨b, cap, cur.setIfInBounds i v, rfl, hg, bs_same hb, hn, hc, by rw [Array.size_setIfInBounds]; exact hs, ?_⟩⟩
    rw [Array.toList_setIfInBounds, List.take_set, ht]
theorem own_far {base : Nat} {e : TypeId} {k n cap : Nat} {lb : Option Nat} {xs : List Value} {p : Addr} (o : Own W base e k lb n cap xs) (hp : ∀ b, lb = some b → b ≠ p.block) (v : Value) : Own (W.setCell p v) base e k lb n cap xs :=
  o.keep fun b hb _ => Below.heap_setCell W p v b (hp b hb)
theorem own_ge {base : Nat} {e : TypeId} {k n cap : Nat} {lb : Option Nat} {xs : List Value} (o : Own W base e k lb n cap xs) : ∀ b, lb = some b → base ≤ b ∧ b < W.heap.size := fun b e => by subst e; exact own_base o
theorem Rf.set_pin {b : Nat} (f : Rf w W h (some b) r s qc rc sc now ps L T) (i : Nat) (n : Int) : Rf w (W.setCell ⟨b, i, none⟩ (.int .i64 n)) h (some b) r s qc rc sc now (ps.set i n) L T := by
  have hb := own_base f.pins
  refine ⟨?_, ?_, own_far f.l (fun k e e2 => f.qr b rfl (by rw [e]; exact congrArg some e2)) _, own_far f.when (fun k e e2 => f.qs b rfl (by rw [e]; exact congrArg some e2)) _, f.qr, f.qs, f.rs, f.ge, be_set f.below (by have := f.ge; dsimp only; omega)⟩
  · rw [List.length_set]
    exact bs_far f.obj (by dsimp only; omega)
  · have := own_set (i := i) f.pins (.int .i64 n)
    unfold Row
    rw [List.length_set]
    unfold intsOf
    rw [List.map_set]
    exact this
theorem Fq.pin {b : Nat} (i : Nat) (v : Value) : Fq h W (some b) r s (W.setCell ⟨b, i, none⟩ v) (some b) r s :=
  ⟨fun k _ _ h1 _ _ => Below.heap_setCell W _ _ k (fun e => h1 (congrArg some e)), fun k _ a b c => ⟨a, b, c⟩, Nat.le_of_eq (World.size_setCell W _ _).symm⟩
theorem Fq.drew {q' r' s' : Option Nat} (a : Fq h W q r s W' q' r' s') : Fq h W q r s W'.drew q' r' s' := ⟨a.block, a.own, a.size⟩
theorem Fq.from_drew {q' r' s' : Option Nat} (a : Fq h W.drew q r s W' q' r' s') : Fq h W q r s W' q' r' s' := ⟨a.block, a.own, a.size⟩
end
section
variable (w W : World) (h : Nat) (q r s : Option Nat) (qc rc sc : Nat) (now : Int) (ps L T : List Int)
/-- Whether a thread is pinned, as the reference has it: below 0 it is not. -/
def pinR (ps : List Int) (i : Int) : Int := if 0 ≤ i then (ps[i.toNat]?).getD (-1) else -1
theorem rpin_out (i : Int) (f : Rf w W h q r s qc rc sc now ps L T) (hi : i < 0 ∨ (ps.length : Int) ≤ i) :
    Calls Try.prog 17 #[.pointer (some ⟨h, 0, none⟩), .int .i64 i] W fun e W' => e = .returned (.bool false) ∧ W' = W := by
  obtain ⟨_, c1, _⟩ := f.c
  obtain ⟨oa, hoa⟩ : ∃ oa, oa = q.map fun b => (⟨b, 0, none⟩ : Addr) := ⟨_, rfl⟩
  rw [show sl q ps.length qc = .slice oa ps.length qc by rw [hoa]; rfl] at c1
  generalize ps.length = n at *
  clear f hoa
  by_cases h0 : i < 0
  · have p1 : (i < 0) = True := eq_true h0
    clear hi
    go_enter Try.func17, Try.ntmps17
    go_wp2
    go_ret
    exact ⟨rfl, rfl⟩
  · have p1 : (i < 0) = False := eq_false h0
    have p2 : ((n : Int) ≤ i) = True := eq_true (by omega)
    clear hi
    go_enter Try.func17, Try.ntmps17
    go_wp2
    go_ret
    exact ⟨rfl, rfl⟩
theorem rpin_had (i : Int) (z : Int) (f : Rf w W h q r s qc rc sc now ps L T) (h0 : 0 ≤ i) (hz : ps[i.toNat]? = some z) (hz0 : 0 ≤ z) :
    Calls Try.prog 17 #[.pointer (some ⟨h, 0, none⟩), .int .i64 i] W fun e W' => e = .returned (.bool false) ∧ W' = W := by
  obtain ⟨_, c1, _⟩ := f.c
  obtain ⟨b, rfl, hb, x0, _⟩ := f.pin hz
  have hl := (List.getElem?_eq_some_iff.1 hz).1
  have c1' : W.cell? ⟨h, 1, none⟩ = some (.slice (some ⟨b, 0, none⟩) ps.length qc) := c1
  have p1 : (i < 0) = False := eq_false (by omega)
  have p2 : ((ps.length : Int) ≤ i) = False := eq_false (by omega)
  have p3 : i < (ps.length : Int) := by omega
  have p4 : (0 ≤ z) = True := eq_true hz0
  generalize ps.length = n at *
  clear f hz hl c1 hb
  go_enter Try.func17, Try.ntmps17
  go_wp2
  go_ret
  exact ⟨rfl, rfl⟩
set_option maxHeartbeats 8000000 in
set_option maxRecDepth 100000 in
theorem rpin_yes (i : Int) (f : Rf w W h q r s qc rc sc now ps L T) (h0 : 0 ≤ i) (hz : ps[i.toNat]? = some (-1)) :
    Calls Try.prog 17 #[.pointer (some ⟨h, 0, none⟩), .int .i64 i] W fun e W' => e = .returned (.bool true) ∧ Rf w W' h q r s qc rc sc now (ps.set i.toNat now) L T ∧ Fq h W q r s W' q r s := by
  have HF := hide f
  obtain ⟨c0, c1, _⟩ := f.c
  obtain ⟨b, rfl, hb, x0, fz⟩ := f.pin hz
  have hl := (List.getElem?_eq_some_iff.1 hz).1
  have c1' : W.cell? ⟨h, 1, none⟩ = some (.slice (some ⟨b, 0, none⟩) ps.length qc) := c1
  have p1 : (i < 0) = False := eq_false (by omega)
  have p2 : ((ps.length : Int) ≤ i) = False := eq_false (by omega)
  have p3 : i < (ps.length : Int) := by omega
  generalize ps.length = n at *
  clear f hz hl c1 hb
  go_enter Try.func17, Try.ntmps17
  go_upto_region 3 with fail
  go_still_tail 10, (by kernel_rfl)
  change wpList _ _ _ _ _ W.drew
  go_wp2
  go_ret
  exact ⟨rfl, HF.out.drew.set_pin i.toNat now, (Fq.pin i.toNat _).from_drew⟩
theorem runpin_out (i : Int) (f : Rf w W h q r s qc rc sc now ps L T) (hi : i < 0 ∨ (ps.length : Int) ≤ i) :
    Calls Try.prog 19 #[.pointer (some ⟨h, 0, none⟩), .int .i64 i] W fun e W' => e = .returned (.bool false) ∧ W' = W := by
  obtain ⟨_, c1, _⟩ := f.c
  obtain ⟨oa, hoa⟩ : ∃ oa, oa = q.map fun b => (⟨b, 0, none⟩ : Addr) := ⟨_, rfl⟩
  rw [show sl q ps.length qc = .slice oa ps.length qc by rw [hoa]; rfl] at c1
  generalize ps.length = n at *
  clear f hoa
  by_cases h0 : i < 0
  · have p1 : (i < 0) = True := eq_true h0
    clear hi
    go_enter Try.func19, Try.ntmps19
    go_wp2
    go_ret
    exact ⟨rfl, rfl⟩
  · have p1 : (i < 0) = False := eq_false h0
    have p2 : ((n : Int) ≤ i) = True := eq_true (by omega)
    clear hi
    go_enter Try.func19, Try.ntmps19
    go_wp2
    go_ret
    exact ⟨rfl, rfl⟩
theorem runpin_no (i : Int) (f : Rf w W h q r s qc rc sc now ps L T) (h0 : 0 ≤ i) (hz : ps[i.toNat]? = some (-1)) :
    Calls Try.prog 19 #[.pointer (some ⟨h, 0, none⟩), .int .i64 i] W fun e W' => e = .returned (.bool false) ∧ W' = W := by
  obtain ⟨_, c1, _⟩ := f.c
  obtain ⟨b, rfl, hb, x0, _⟩ := f.pin hz
  have hl := (List.getElem?_eq_some_iff.1 hz).1
  have c1' : W.cell? ⟨h, 1, none⟩ = some (.slice (some ⟨b, 0, none⟩) ps.length qc) := c1
  have p1 : (i < 0) = False := eq_false (by omega)
  have p2 : ((ps.length : Int) ≤ i) = False := eq_false (by omega)
  have p3 : i < (ps.length : Int) := by omega
  generalize ps.length = n at *
  clear f hz hl c1 hb
  go_enter Try.func19, Try.ntmps19
  go_wp2
  go_ret
  exact ⟨rfl, rfl⟩
theorem runpin_yes (i z : Int) (f : Rf w W h q r s qc rc sc now ps L T) (h0 : 0 ≤ i) (hz : ps[i.toNat]? = some z) (hz0 : 0 ≤ z) :
    Calls Try.prog 19 #[.pointer (some ⟨h, 0, none⟩), .int .i64 i] W fun e W' => e = .returned (.bool true) ∧ Rf w W' h q r s qc rc sc now (ps.set i.toNat (-1)) L T ∧ Fq h W q r s W' q r s := by
  have HF := hide f
  obtain ⟨_, c1, _⟩ := f.c
  obtain ⟨b, rfl, hb, x0, fz⟩ := f.pin hz
  have hl := (List.getElem?_eq_some_iff.1 hz).1
  have c1' : W.cell? ⟨h, 1, none⟩ = some (.slice (some ⟨b, 0, none⟩) ps.length qc) := c1
  have p1 : (i < 0) = False := eq_false (by omega)
  have p2 : ((ps.length : Int) ≤ i) = False := eq_false (by omega)
  have p3 : i < (ps.length : Int) := by omega
  have p4 : (z < 0) = False := eq_false (by omega)
  generalize ps.length = n at *
  clear f hz hl c1 hb
  go_enter Try.func19, Try.ntmps19
  go_wp2
  go_ret
  exact ⟨rfl, HF.out.set_pin i.toNat (-1), Fq.pin i.toNat _⟩
end
end Go.Proofs.Ytnpeklimpdljbaa.EpocRef


