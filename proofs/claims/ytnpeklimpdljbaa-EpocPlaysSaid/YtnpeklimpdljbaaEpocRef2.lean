/- The reference's epochs: what New, Retire and Advance do: contracts, for every state. -/
import Derived.Test.YtnpeklimpdljbaaEpocRef
import Derived.Test.YtnpeklimpdljbaaSplit
namespace Go.Proofs.Ytnpeklimpdljbaa.EpocRef2
open Go.RowKit Go.Proofs.YtnpeklimpdljbaaKit Go.Proofs.YtnpeklimpdljbaaW.PrintWords Go.Proofs.YtnpeklimpdljbaaW.PrintLast Go.Proofs.Ytnpeklimpdljbaa.EpocBase Go.Proofs.Ytnpeklimpdljbaa.EpocOps Go.Proofs.Ytnpeklimpdljbaa.EpocRows Go.Proofs.Ytnpeklimpdljbaa.EpocAdv Go.Proofs.Ytnpeklimpdljbaa.EpocUse Go.Proofs.Ytnpeklimpdljbaa.EpocRef Go.Proofs.Ytnpeklimpdljbaa.Split
attribute [local go_sem] cell_alloc_some cell_alloc2_some cell_alloc3_some cell_alloc4_some
attribute [local go_sem ↓] Go.wp_at_zero Go.wp_at_succ
set_option linter.unusedVariables false
set_option linter.unusedSimpArgs false
theorem or_grown {W w1 : World} {base : Nat} {e : TypeId} {k n : Nat} {v : Value} {xs : List Value} {row : Option Nat} (h : W.ownsRow base e k v n xs) (hg : W.grownBy w1 row) (hne : v.ownBlock ≠ row ∨ v.ownBlock = none) : w1.ownsRow base e k v n xs :=
  h.kept hg (hne.elim .inr .inl)
theorem bs_grown {w w1 : World} {g : Nat} {o : Obj} {row : Option Nat} (h : w.heap[g]? = some o) (hg : w.grownBy w1 row) (hne : some g ≠ row) : w1.heap[g]? = some o := (hg.block g (bs_lt h) hne).trans h
/-- Only the blocks of two rows have turned, and there are new ones. -/
structure Two (W : World) (r s : Option Nat) (w2 : World) : Prop where
  block : ∀ k, k < W.heap.size → some k ≠ r → some k ≠ s → w2.heap[k]? = W.heap[k]?
  size : W.heap.size ≤ w2.heap.size
  os : w2.os = W.os
  tape : w2.tape = W.tape
  output : w2.output = W.output
theorem bs_fresh {w w1 W : World} {g : Nat} {o : Obj} {row : Option Nat} (h : w.heap[g]? = some o) (hg : w.grownBy w1 row) (hr : ∀ b, row = some b → b < W.heap.size) (hW : W.heap.size ≤ g) : w1.heap[g]? = some o := bs_grown h hg (fun e => by have := hr g e.symm; omega)
theorem heap_size_alloc_ (w : World) (o : Obj) : (w.alloc o).heap.size = w.heap.size + 1 := by simp
theorem size_drew_ (w : World) : w.drew.heap.size = w.heap.size := rfl
theorem Two.refl (W : World) (r s : Option Nat) : Two W r s W := ⟨fun _ _ _ _ => rfl, Nat.le_refl _, rfl, rfl, rfl⟩
theorem Two.drew {W w2 : World} {r s : Option Nat} (h : Two W r s w2) : Two W r s w2.drew := ⟨h.block, h.size, h.os, h.tape, h.output⟩
theorem Two.alloc {W w2 : World} {r s : Option Nat} (h : Two W r s w2) (o : Obj) : Two W r s (w2.alloc o) :=
  ⟨fun k hk a b => (Below.heap_alloc w2 o k (Nat.lt_of_lt_of_le hk h.size)).trans (h.block k hk a b), Nat.le_trans h.size (by simp), h.os, h.tape, h.output⟩
theorem Two.grown1 {W w2 w3 : World} {r s : Option Nat} (h : Two W r s w2) (hg : w2.grownBy w3 r) : Two W r s w3 :=
  ⟨fun k hk a b => (hg.block k (Nat.lt_of_lt_of_le hk h.size) a).trans (h.block k hk a b), Nat.le_trans h.size hg.size, hg.os.trans h.os, hg.tape.trans h.tape, hg.output.trans h.output⟩
theorem Two.grown2 {W w2 w3 : World} {r s : Option Nat} (h : Two W r s w2) (hg : w2.grownBy w3 s) : Two W r s w3 :=
  ⟨fun k hk a b => (hg.block k (Nat.lt_of_lt_of_le hk h.size) b).trans (h.block k hk a b), Nat.le_trans h.size hg.size, hg.os.trans h.os, hg.tape.trans h.tape, hg.output.trans h.output⟩
/-- Where a row lies that was appended to. -/
def Lies (W : World) (r : Option Nat) (g : Nat) : Prop := r = some g ∨ W.heap.size ≤ g
theorem turned2 {w W w2 : World} {h : Nat} {q r s : Option Nat} {qc rc sc : Nat} {now : Int} {ps L T L' T' : List Int} (f : Rf w W h q r s qc rc sc now ps L T) (two : Two W r s w2)
    {r' s' : Option Nat} {cl ct : Nat} (ol : Own w2 (h + 1) 3 1 r' L'.length cl (intsOf L')) (ot : Own w2 (h + 1) 3 1 s' T'.length ct (intsOf T'))
    (l1 : ∀ g, r' = some g → Lies W r g) (l2 : ∀ g, s' = some g → Lies W s g) (hne : ∀ g, r' = some g → s' ≠ some g) {w3 : World}
    (e3 : w3 = (w2.setCell ⟨h, 2, none⟩ (sl r' L'.length cl)).setCell ⟨h, 3, none⟩ (sl s' T'.length ct)) :
    Rf w w3 h q r' s' qc cl ct now ps L' T' ∧ Fq h W q r s w3 q r' s' := by
  subst e3
  have hs := bs_lt f.obj
  have hr1 : ∀ b, r = some b → h < b ∧ b < W.heap.size := own_ge f.l
  have hs1 : ∀ b, s = some b → h < b ∧ b < W.heap.size := own_ge f.when
  have hq1 : ∀ b, q = some b → h < b ∧ b < W.heap.size := own_ge f.pins
  have hob : w2.heap[h]? = _ := (two.block h hs (fun e => by have := hr1 h e.symm; omega) (fun e => by have := hs1 h e.symm; omega)).trans f.obj
  have hB : Below w.heap.size w w2 := ⟨two.os.trans f.below.os, two.tape.trans f.below.tape, two.output.trans f.below.output, Nat.le_trans f.below.size two.size, fun k hk => by
    have := f.ge
    have := f.below.size
    exact (two.block k (by omega) (fun e => by have := hr1 k e.symm; omega) (fun e => by have := hs1 k e.symm; omega)).trans (f.below.block k hk)⟩
  have hp : Own w2 (h + 1) 3 1 q ps.length qc (intsOf ps) := f.pins.keep fun b e hlt => two.block b hlt (fun e2 => f.qr b e e2.symm) (fun e2 => f.qs b e e2.symm)
  have far : ∀ {base : Nat} {e : TypeId} {k : Nat} {ob : Option Nat} {n c : Nat} {vs : List Value}, Own w2 (h + 1) e k ob n c vs → Own ((w2.setCell ⟨h, 2, none⟩ (sl r' L'.length cl)).setCell ⟨h, 3, none⟩ (sl s' T'.length ct)) (h + 1) e k ob n c vs := fun o => by
    have hb := own_ge o
    exact own_far (own_far o (fun b e => by have := hb b e; dsimp only; omega) _) (fun b e => by have := hb b e; dsimp only; omega) _
  refine ⟨⟨?_, far (base := 0) hp, far (base := 0) ol, far (base := 0) ot, ?_, ?_, hne, f.ge, be_set (be_set hB f.ge) f.ge⟩, ?_, ?_, ?_⟩
  · have h1 := bs_same (i := 2) (v := sl r' L'.length cl) hob
    have h2 := bs_same (i := 3) (v := sl s' T'.length ct) h1
    simpa using h2
  · intro b e e2
    rcases l1 b e2 with h | h
    · exact f.qr b e h
    · have := hq1 b e; omega
  · intro b e e2
    rcases l2 b e2 with h | h
    · exact f.qs b e h
    · have := hq1 b e; omega
  · intro k hk a b c d
    exact (Below.heap_setCell _ _ _ k (by dsimp only; omega)).trans ((Below.heap_setCell w2 _ _ k (by dsimp only; omega)).trans (two.block k hk c d))
  · intro k hk a b c
    refine ⟨a, fun e => ?_, fun e => ?_⟩
    · rcases l1 k e.symm with h | h
      · exact b h.symm
      · omega
    · rcases l2 k e.symm with h | h
      · exact c h.symm
      · omega
  · rw [World.size_setCell, World.size_setCell]; exact two.size
theorem Two.grown0 {W w2 w3 : World} {r s : Option Nat} (h : Two W r s w2) (hg : w2.grownBy w3 none) : Two W r s w3 :=
  ⟨fun k hk a b => (hg.block k (Nat.lt_of_lt_of_le hk h.size) (by simp)).trans (h.block k hk a b), Nat.le_trans h.size hg.size, hg.os.trans h.os, hg.tape.trans h.tape, hg.output.trans h.output⟩
def JR (W : World) (h : Nat) (o : Obj) (r s : Option Nat) (w2 : World) : Prop := w2.heap[h]? = some o ∧ Two W r s w2
section
variable {W : World} {h : Nat} {o : Obj} {r s row : Option Nat}
theorem jr_none (w1 w2 : World) (j : JR W h o r s w1) (hg : w1.grownBy w2 none) : JR W h o r s w2 := ⟨bs_grown j.1 hg (by simp), j.2.grown0 hg⟩
theorem jr_r (e : row = r) (hne : some h ≠ row) (w1 w2 : World) (j : JR W h o r s w1) (hg : w1.grownBy w2 row) : JR W h o r s w2 := by subst e; exact ⟨bs_grown j.1 hg hne, j.2.grown1 hg⟩
theorem jr_s (e : row = s) (hne : some h ≠ row) (w1 w2 : World) (j : JR W h o r s w1) (hg : w1.grownBy w2 row) : JR W h o r s w2 := by subst e; exact ⟨bs_grown j.1 hg hne, j.2.grown2 hg⟩
theorem jr_size (w1 : World) (j : JR W h o r s w1) : W.heap.size ≤ w1.heap.size := j.2.size
end
theorem none_ne (v : Value) : v.ownBlock ≠ none ∨ v.ownBlock = none := (Classical.em _).symm
theorem ne_new {g n c : Nat} {row : Option Nat} (h : row = some g → False) : (Value.slice (some ⟨g, 0, none⟩) n c).ownBlock ≠ row := fun e => h e.symm
theorem own_snoc {W : World} {base g n cap : Nat} {x : Int} {L : List Int} (h : W.ownsRow base 3 1 (.slice (some ⟨g, 0, none⟩) (n + 1) cap) (n + 1) (intsOf L ++ [.int .i64 x])) (hn : L.length = n) : Own W base 3 1 (some g) (L ++ [x]).length cap (intsOf (L ++ [x])) := by
  rw [List.length_append, hn]
  unfold intsOf at *
  rw [List.map_append]
  exact ⟨h⟩
theorem cells4 {W : World} {g : Nat} {a b c d : Value} {t : TypeId} (h : W.heap[g]? = some (.cells #[a, b, c, d] t (0, 0))) : W.cell? ⟨g, 0, none⟩ = some a ∧ W.cell? ⟨g, 1, none⟩ = some b ∧ W.cell? ⟨g, 2, none⟩ = some c ∧ W.cell? ⟨g, 3, none⟩ = some d ∧ ∀ j, W.frozen? ⟨g, j, none⟩ = false :=
  ⟨(bs_cell h 0).trans rfl, (bs_cell h 1).trans rfl, (bs_cell h 2).trans rfl, (bs_cell h 3).trans rfl, bs_frozen h⟩
section
variable {P : Program} {md : Region.Mode} {l : List Oper} {Q : Exit → Act → World → Prop} {S : World → Prop}
theorem take_ {i : Nat} {oi : Oper} {v : Value} {fuel : Nat} {listed : Array Bool} {a : Act} {w : World} (hi : l[i]? = some oi)
    (hs : Region.noSelect l.toArray = true) (hf : Region.free md l.toArray listed i = true) (hr : (Region.ready md l.toArray listed).contains i = true)
    (hQ : ∀ c a w, Q (.panic c) (a.put oi.dst v) w → Q (.panic c) a w) (hy : YieldsIf P l.toArray S oi v a) (hS : S w)
    (h : wpAnyH P md l.toArray Q S fuel (listed.setIfInBounds i true) (a.put oi.dst v) w) : wpAnyH P md l.toArray Q S (fuel + 1) listed a w :=
  wpAnyH_take (by simpa using hi) hs hf hr hQ hy hS h
theorem cons_ {fuel : Nat} {listed : Array Bool} {a : Act} {w : World} {i : Nat} {o : Oper} {rs : List Nat} (ho : l[i]? = some o)
    (h : ∀ K' : Act → World → Prop, Shut (∀ a w, S w → (S w → wpAnyH P md l.toArray Q S fuel (listed.setIfInBounds i true) a w) → K' a w) → if Region.wanted o (yielded l.toArray a.tmps) = true then Oper.wp P o a w K' Q else K' (a.put o.dst undef) w)
    (hs : AllReadyH P md l.toArray Q S fuel listed a w rs) : AllReadyH P md l.toArray Q S fuel listed a w (i :: rs) := AllReadyH.cons (by simpa using ho) h hs
theorem nil_ {fuel : Nat} {listed : Array Bool} {a : Act} {w : World} : AllReadyH P md l.toArray Q S fuel listed a w [] := AllReadyH.nil
theorem letter_ {ops : Array Oper} {fuel : Nat} {listed : Array Bool} {a : Act} {w : World} (I : World → Prop) (h : I w) (k : ∀ w2, I w2 → wpAnyH P md ops Q S fuel listed a w2) : wpAnyH P md ops Q S fuel listed a w := k w h
end
set_option maxHeartbeats 8000000 in
set_option maxRecDepth 100000 in
theorem rretire (x : Int) (w W : World) (h : Nat) (q r s : Option Nat) (qc rc sc : Nat) (now : Int) (ps L T : List Int) (f : Rf w W h q r s qc rc sc now ps L T) (hl : L.length ≤ 1000000) (ht : T.length ≤ 1000000) :
    Calls Try.prog 20 #[.pointer (some ⟨h, 0, none⟩), .int .i64 x] W fun e W' => e = .returned (.tuple #[]) ∧ ∃ r' s' rc' sc', Rf w W' h q r' s' qc rc' sc' now ps (L ++ [x]) (T ++ [now]) ∧ Fq h W q r s W' q r' s' := by
  obtain ⟨i0, hi, hz0, hz1, hz2⟩ := info_parts intInfo
  have HF := hide f
  obtain ⟨c0, c1, c2, c3⟩ := f.c
  obtain ⟨n, hn⟩ : ∃ n, L.length = n := ⟨_, rfl⟩
  obtain ⟨m, hm⟩ : ∃ m, T.length = m := ⟨_, rfl⟩
  have hL := f.l.owns
  have hT := f.when.owns
  rw [hn] at hL c2 hl
  rw [hm] at hT c3 ht
  obtain ⟨vl, hvl⟩ : ∃ v, v = sl r n rc := ⟨_, rfl⟩
  obtain ⟨vt, hvt⟩ : ∃ v, v = sl s m sc := ⟨_, rfl⟩
  rw [← hvl] at hL c2
  rw [← hvt] at hT c3
  have b1 : vl.ownBlock = r := by rw [hvl]; exact sl_block _ _ _
  have b2 : vt.ownBlock = s := by rw [hvt]; exact sl_block _ _ _
  have HL := hide hL
  have HT := hide hT
  have hs := bs_lt f.obj
  have hrl : ∀ b, r = some b → h < b := fun b e => (own_ge f.l b e).1
  have hsl : ∀ b, s = some b → h < b := fun b e => (own_ge f.when b e).1
  have nr : some h ≠ vl.ownBlock := fun e => by rw [b1] at e; have := hrl h e.symm; omega
  have ns : some h ≠ vt.ownBlock := fun e => by rw [b2] at e; have := hsl h e.symm; omega
  have NTL := hide (show vt.ownBlock ≠ vl.ownBlock ∨ vt.ownBlock = none from by
    rw [b1, b2]
    cases hr : r with
    | none => cases hs : s with
      | none => exact .inr rfl
      | some b => exact .inl (by simp)
    | some b => exact .inl (fun e => f.rs b hr e))
  have NLT := hide (show vl.ownBlock ≠ vt.ownBlock ∨ vl.ownBlock = none from by
    rw [b1, b2]
    cases hr : r with
    | none => exact .inr rfl
    | some b => exact .inl (fun e => f.rs b hr e.symm))
  have B12 := hide (And.intro b1 b2)
  have HNM := hide (And.intro hn hm)
  have HHS := hide hs
  have FL := hide (show ∀ b, vl.ownBlock = some b → b < W.heap.size from fun b e => (own_ge f.l b (by rw [← b1, e])).2)
  have FT := hide (show ∀ b, vt.ownBlock = some b → b < W.heap.size from fun b e => (own_ge f.when b (by rw [← b2, e])).2)
  obtain ⟨v1, hv1⟩ : ∃ v, v = sl q ps.length qc := ⟨_, rfl⟩
  have OBJ := hide (show W.heap[h]? = some (.cells #[.int .i64 now, v1, vl, vt] 42 (0, 0)) by rw [hv1, hvl, hvt, ← hn, ← hm]; exact f.obj)
  have fz := bs_frozen OBJ.out
  have hh : h + 1 ≤ W.heap.size := by omega
  have HV := hide (And.intro hvl (And.intro hvt hv1))
  clear hL hT hvl hvt b1 b2 hn hm f hrl hsl hs c1 hv1
  go_enter Try.func20, Try.ntmps20
  go_wp2_with fail
  --RETIRE
  have JN := jr_none (W := W) (h := h) (o := (.cells #[.int .i64 now, v1, vl, vt] 42 (0, 0))) (r := r) (s := s)
  have JL := jr_r (W := W) (h := h) (o := (.cells #[.int .i64 now, v1, vl, vt] 42 (0, 0))) (r := r) (s := s) (row := vl.ownBlock) B12.out.1 nr
  have JT := jr_s (W := W) (h := h) (o := (.cells #[.int .i64 now, v1, vl, vt] 42 (0, 0))) (r := r) (s := s) (row := vt.ownBlock) B12.out.2 ns
  have JS := jr_size (W := W) (h := h) (o := (.cells #[.int .i64 now, v1, vl, vt] 42 (0, 0))) (r := r) (s := s)
  refine wp_region_split_ex (n := 19) (ex := 1) (vx := .pointer (some ⟨h, 0, none⟩)) (by kernel_rfl) (by kernel_rfl) (by omega) rfl (by kernel_rfl) (by kernel_rfl) (by kernel_rfl) (fun _ _ _ h => h) (Or.inl ⟨by rfl, fun w5 => by go_simp⟩) ?_
  simp only [List.take_succ_cons, List.take_zero, List.drop_succ_cons, List.drop_zero, Act.put, List.setIfInBounds_toArray, List.set_cons_zero, List.set_cons_succ]
  refine wpAny_of_held (S := JR W h (.cells #[.int .i64 now, v1, vl, vt] 42 (0, 0)) r s) _ _ _ _ ?_
  refine letter_ (fun w3 => JR W h (.cells #[.int .i64 now, v1, vl, vt] 42 (0, 0)) r s w3 ∧ w3.ownsRow (h + 1) 3 1 vl n (intsOf L) ∧ w3.ownsRow (h + 1) 3 1 vt m (intsOf T)) ⟨⟨OBJ.out, (Two.refl W r s).drew⟩, World.ownsRow.drew HL.out, World.ownsRow.drew HT.out⟩ ?_
  rintro w0 ⟨hj0, hl0, ht0⟩
  have JC0 := hide hj0
  have RL0 := hide hl0
  have RT0 := hide ht0
  clear hj0 hl0 ht0 OBJ HL HT c0 c2 c3 fz
  refine take_ (i := 0) (v := ?_) rfl (by kernel_rfl) (by kernel_rfl) (by kernel_rfl) (fun _ _ _ h => h) (Or.inl ⟨by rfl, ?_⟩) JC0.out ?_
  rotate_left
  · (intro w5 hSw; obtain ⟨hO, _⟩ := hSw; obtain ⟨k0, k1, k2, k3, fzz⟩ := cells4 hO; go_simp; try (with_reducible rfl))
  try simp only [Act.put, List.setIfInBounds_toArray, List.set_cons_zero, List.set_cons_succ]
  refine take_ (i := 2) (v := ?_) rfl (by kernel_rfl) (by kernel_rfl) (by kernel_rfl) (fun _ _ _ h => h) (Or.inl ⟨by rfl, ?_⟩) JC0.out ?_
  rotate_left
  · (intro w5 hSw; obtain ⟨hO, _⟩ := hSw; obtain ⟨k0, k1, k2, k3, fzz⟩ := cells4 hO; go_simp; try (with_reducible rfl))
  try simp only [Act.put, List.setIfInBounds_toArray, List.set_cons_zero, List.set_cons_succ]
  refine take_ (i := 3) (v := ?_) rfl (by kernel_rfl) (by kernel_rfl) (by kernel_rfl) (fun _ _ _ h => h) (Or.inl ⟨by rfl, ?_⟩) JC0.out ?_
  rotate_left
  · (intro w5 hSw; obtain ⟨hO, _⟩ := hSw; obtain ⟨k0, k1, k2, k3, fzz⟩ := cells4 hO; go_simp; try (with_reducible rfl))
  try simp only [Act.put, List.setIfInBounds_toArray, List.set_cons_zero, List.set_cons_succ]
  refine take_ (i := 4) (v := ?_) rfl (by kernel_rfl) (by kernel_rfl) (by kernel_rfl) (fun _ _ _ h => h) (Or.inl ⟨by rfl, ?_⟩) JC0.out ?_
  rotate_left
  · (intro w5 hSw; obtain ⟨hO, _⟩ := hSw; obtain ⟨k0, k1, k2, k3, fzz⟩ := cells4 hO; go_simp; try (with_reducible rfl))
  try simp only [Act.put, List.setIfInBounds_toArray, List.set_cons_zero, List.set_cons_succ]
  refine take_ (i := 5) (v := ?_) rfl (by kernel_rfl) (by kernel_rfl) (by kernel_rfl) (fun _ _ _ h => h) (Or.inl ⟨by rfl, ?_⟩) JC0.out ?_
  rotate_left
  · (intro w5 hSw; obtain ⟨hO, _⟩ := hSw; obtain ⟨k0, k1, k2, k3, fzz⟩ := cells4 hO; go_simp; try (with_reducible rfl))
  try simp only [Act.put, List.setIfInBounds_toArray, List.set_cons_zero, List.set_cons_succ]
  refine take_ (i := 6) (v := ?_) rfl (by kernel_rfl) (by kernel_rfl) (by kernel_rfl) (fun _ _ _ h => h) (Or.inl ⟨by rfl, ?_⟩) JC0.out ?_
  rotate_left
  · (intro w5 hSw; obtain ⟨hO, _⟩ := hSw; obtain ⟨k0, k1, k2, k3, fzz⟩ := cells4 hO; go_simp; try (with_reducible rfl))
  try simp only [Act.put, List.setIfInBounds_toArray, List.set_cons_zero, List.set_cons_succ]
  refine take_ (i := 9) (v := ?_) rfl (by kernel_rfl) (by kernel_rfl) (by kernel_rfl) (fun _ _ _ h => h) (Or.inl ⟨by rfl, ?_⟩) JC0.out ?_
  rotate_left
  · (intro w5 hSw; obtain ⟨hO, _⟩ := hSw; obtain ⟨k0, k1, k2, k3, fzz⟩ := cells4 hO; go_simp; try (with_reducible rfl))
  try simp only [Act.put, List.setIfInBounds_toArray, List.set_cons_zero, List.set_cons_succ]
  refine take_ (i := 10) (v := ?_) rfl (by kernel_rfl) (by kernel_rfl) (by kernel_rfl) (fun _ _ _ h => h) (Or.inl ⟨by rfl, ?_⟩) JC0.out ?_
  rotate_left
  · (intro w5 hSw; obtain ⟨hO, _⟩ := hSw; obtain ⟨k0, k1, k2, k3, fzz⟩ := cells4 hO; go_simp; try (with_reducible rfl))
  try simp only [Act.put, List.setIfInBounds_toArray, List.set_cons_zero, List.set_cons_succ]
  refine take_ (i := 11) (v := ?_) rfl (by kernel_rfl) (by kernel_rfl) (by kernel_rfl) (fun _ _ _ h => h) (Or.inl ⟨by rfl, ?_⟩) JC0.out ?_
  rotate_left
  · (intro w5 hSw; obtain ⟨hO, _⟩ := hSw; obtain ⟨k0, k1, k2, k3, fzz⟩ := cells4 hO; go_simp; try (with_reducible rfl))
  try simp only [Act.put, List.setIfInBounds_toArray, List.set_cons_zero, List.set_cons_succ]
  refine take_ (i := 12) (v := ?_) rfl (by kernel_rfl) (by kernel_rfl) (by kernel_rfl) (fun _ _ _ h => h) (Or.inl ⟨by rfl, ?_⟩) JC0.out ?_
  rotate_left
  · (intro w5 hSw; obtain ⟨hO, _⟩ := hSw; obtain ⟨k0, k1, k2, k3, fzz⟩ := cells4 hO; go_simp; try (with_reducible rfl))
  try simp only [Act.put, List.setIfInBounds_toArray, List.set_cons_zero, List.set_cons_succ]
  refine take_ (i := 13) (v := ?_) rfl (by kernel_rfl) (by kernel_rfl) (by kernel_rfl) (fun _ _ _ h => h) (Or.inl ⟨by rfl, ?_⟩) JC0.out ?_
  rotate_left
  · (intro w5 hSw; obtain ⟨hO, _⟩ := hSw; obtain ⟨k0, k1, k2, k3, fzz⟩ := cells4 hO; go_simp; try (with_reducible rfl))
  try simp only [Act.put, List.setIfInBounds_toArray, List.set_cons_zero, List.set_cons_succ]
  refine take_ (i := 14) (v := ?_) rfl (by kernel_rfl) (by kernel_rfl) (by kernel_rfl) (fun _ _ _ h => h) (Or.inl ⟨by rfl, ?_⟩) JC0.out ?_
  rotate_left
  · (intro w5 hSw; obtain ⟨hO, _⟩ := hSw; obtain ⟨k0, k1, k2, k3, fzz⟩ := cells4 hO; go_simp; try (with_reducible rfl))
  try simp only [Act.put, List.setIfInBounds_toArray, List.set_cons_zero, List.set_cons_succ]
  refine take_ (i := 15) (v := ?_) rfl (by kernel_rfl) (by kernel_rfl) (by kernel_rfl) (fun _ _ _ h => h) (Or.inl ⟨by rfl, ?_⟩) JC0.out ?_
  rotate_left
  · (intro w5 hSw; obtain ⟨hO, _⟩ := hSw; obtain ⟨k0, k1, k2, k3, fzz⟩ := cells4 hO; go_simp; try (with_reducible rfl))
  try simp only [Act.put, List.setIfInBounds_toArray, List.set_cons_zero, List.set_cons_succ]
  refine take_ (i := 16) (v := ?_) rfl (by kernel_rfl) (by kernel_rfl) (by kernel_rfl) (fun _ _ _ h => h) (Or.inl ⟨by rfl, ?_⟩) JC0.out ?_
  rotate_left
  · (intro w5 hSw; obtain ⟨hO, _⟩ := hSw; obtain ⟨k0, k1, k2, k3, fzz⟩ := cells4 hO; go_simp; try (with_reducible rfl))
  try simp only [Act.put, List.setIfInBounds_toArray, List.set_cons_zero, List.set_cons_succ]
  refine wpAnyH_ready (rs := [7, 17]) (by kernel_rfl) (by simp) ?_
  refine cons_ rfl (fun K hK => ?_) ?_
  · go_simp
    refine hK.out _ _ (JN _ _ JC0.out (World.grownBy_alloc _ _ none)) (fun _ => ?_)
    try simp only [Act.put, List.setIfInBounds_toArray, List.set_cons_zero, List.set_cons_succ]
    refine letter_ (fun w3 => w0.grownBy w3 none ∧ w3.heap[w0.heap.size]? = some (.cells #[.int .i64 x] 3 (0, 0))) ⟨World.grownBy_alloc _ _ none, bs_new rfl⟩ ?_
    rintro u1 ⟨hg1, hb1⟩
    have hq1 := JS _ JC0.out; have hqq1 := hg1.size
    have JC1 := hide (JN _ _ JC0.out hg1)
    have RL1 := hide (or_grown RL0.out hg1 (none_ne _))
    have RT1 := hide (or_grown RT0.out hg1 (none_ne _))
    have BL1 := hide hb1
    generalize w0.heap.size = blL at *
    clear hg1 hb1
    refine wpAnyH_ready (rs := [8, 17]) (by kernel_rfl) (by simp) ?_
    refine cons_ rfl (fun K hK => ?_) ?_
    · refine step_append_lies _ (by rfl) (.tmp 9) (.tmp 11) _ (by rfl) (h + 1) 3 i0 _ 1 8 Try.underlying22 hi hz0 hz1 hz2 rfl (by omega) vl n (intsOf L) (by rfl) RL1.out _ 1 1 [.int .i64 x] (by rfl) (by rfl) (World.news_of_block (cs := #[.int .i64 x]) (t := 3) (fr := (0, 0)) BL1.out) (by simp [Value.oneCell']) (by omega) (by unfold maxLen; omega) (by omega) (by have := JS _ JC1.out; omega) _ rfl ?_
      intro gL capL u2 hown2 hgr2 hat2 hlt2
      refine hK.out _ _ (JL _ _ JC1.out hgr2) (fun _ => ?_)
      try simp only [Act.put, List.setIfInBounds_toArray, List.set_cons_zero, List.set_cons_succ]
      have hq2 := JS _ JC1.out; have hqq2 := hgr2.size
      have JC2 := hide (JL _ _ JC1.out hgr2)
      have RL2 := hide hown2
      have RT2 := hide (or_grown RT1.out hgr2 NTL.out)
      have LIL := hide (show vl.ownBlock = some gL ∨ W.heap.size ≤ gL from hat2.elim .inl (fun e => .inr (by omega)))
      clear hgr2 hown2 hat2
      refine wpAnyH_ready (rs := [17]) (by kernel_rfl) (by simp) ?_
      refine cons_ rfl (fun K hK => ?_) ?_
      · go_simp
        refine hK.out _ _ (JN _ _ JC2.out (World.grownBy_alloc _ _ none)) (fun _ => ?_)
        try simp only [Act.put, List.setIfInBounds_toArray, List.set_cons_zero, List.set_cons_succ]
        refine letter_ (fun w3 => u2.grownBy w3 none ∧ w3.heap[u2.heap.size]? = some (.cells #[.int .i64 now] 3 (0, 0))) ⟨World.grownBy_alloc _ _ none, bs_new rfl⟩ ?_
        rintro u3 ⟨hg3, hb3⟩
        have hq3 := JS _ JC2.out; have hqq3 := hg3.size
        have JC3 := hide (JN _ _ JC2.out hg3)
        have RL3 := hide (or_grown RL2.out hg3 (none_ne _))
        have RT3 := hide (or_grown RT2.out hg3 (none_ne _))
        have BT3 := hide hb3
        generalize u2.heap.size = blT at *
        clear hg3 hb3
        refine wpAnyH_ready (rs := [18]) (by kernel_rfl) (by simp) ?_
        refine cons_ rfl (fun K hK => ?_) ?_
        · refine step_append_lies _ (by rfl) (.tmp 16) (.tmp 21) _ (by rfl) (h + 1) 3 i0 _ 1 8 Try.underlying22 hi hz0 hz1 hz2 rfl (by omega) vt m (intsOf T) (by rfl) RT3.out _ 1 1 [.int .i64 now] (by rfl) (by rfl) (World.news_of_block (cs := #[.int .i64 now]) (t := 3) (fr := (0, 0)) BT3.out) (by simp [Value.oneCell']) (by omega) (by unfold maxLen; omega) (by omega) (by have := JS _ JC3.out; omega) _ rfl ?_
          intro gT capT u4 hown4 hgr4 hat4 hlt4
          refine hK.out _ _ (JT _ _ JC3.out hgr4) (fun _ => ?_)
          try simp only [Act.put, List.setIfInBounds_toArray, List.set_cons_zero, List.set_cons_succ]
          have hq4 := JS _ JC3.out; have hqq4 := hgr4.size
          have JC4 := hide (JT _ _ JC3.out hgr4)
          have RT4 := hide hown4
          have RL4 := hide (or_grown RL3.out hgr4 (.inl (ne_new (fun e => LIL.out.elim (fun e2 => NLT.out.elim (fun e3 => e3 (by rw [e2, e])) (fun e3 => by rw [e3] at e2; cases e2)) (fun e2 => by have := FT.out _ e; omega)))))
          have LIT := hide (show vt.ownBlock = some gT ∨ W.heap.size ≤ gT from hat4.elim .inl (fun e => .inr (by omega)))
          have NE := hide (show gT ≠ gL from fun e => hat4.elim (fun e1 => LIL.out.elim (fun e2 => NLT.out.elim (fun e3 => e3 (by rw [e2, e1, e])) (fun e3 => by rw [e3] at e2; cases e2)) (fun e2 => by have := FT.out _ e1; omega)) (fun e1 => by omega))
          clear hgr4 hown4 hat4
          refine wpAnyH_done (by kernel_rfl) ?_ _
          obtain ⟨hO, TW⟩ := JC4.out
          obtain ⟨k0, k1, k2, k3, fzz⟩ := cells4 hO
          have TWH := hide TW
          clear TW hO
          dsimp only [TailPost]
          go_wp2
          go_end0
          exact ⟨rfl, some gL, some gT, capL, capT, turned2 HF.out TWH.out (own_snoc RL4.out HNM.out.1) (own_snoc RT4.out HNM.out.2) (fun g e => by cases e; rw [← B12.out.1]; exact LIL.out) (fun g e => by cases e; rw [← B12.out.2]; exact LIT.out) (fun g e e2 => by cases e; cases e2; exact NE.out rfl) (by rw [List.length_append, List.length_append, HNM.out.1, HNM.out.2]; rfl)⟩
        exact nil_
      exact nil_
    refine cons_ rfl (fun K hK => ?_) ?_
    · go_simp
      refine hK.out _ _ (JN _ _ JC1.out (World.grownBy_alloc _ _ none)) (fun _ => ?_)
      try simp only [Act.put, List.setIfInBounds_toArray, List.set_cons_zero, List.set_cons_succ]
      refine letter_ (fun w3 => u1.grownBy w3 none ∧ w3.heap[u1.heap.size]? = some (.cells #[.int .i64 now] 3 (0, 0))) ⟨World.grownBy_alloc _ _ none, bs_new rfl⟩ ?_
      rintro u2 ⟨hg2, hb2⟩
      have hq2 := JS _ JC1.out; have hqq2 := hg2.size
      have JC2 := hide (JN _ _ JC1.out hg2)
      have RL2 := hide (or_grown RL1.out hg2 (none_ne _))
      have BL2 := hide (bs_grown BL1.out hg2 (by simp))
      have RT2 := hide (or_grown RT1.out hg2 (none_ne _))
      have BT2 := hide hb2
      generalize u1.heap.size = blT at *
      clear hg2 hb2
      refine wpAnyH_ready (rs := [8]) (by kernel_rfl) (by simp) ?_
      refine cons_ rfl (fun K hK => ?_) ?_
      · refine step_append_lies _ (by rfl) (.tmp 9) (.tmp 11) _ (by rfl) (h + 1) 3 i0 _ 1 8 Try.underlying22 hi hz0 hz1 hz2 rfl (by omega) vl n (intsOf L) (by rfl) RL2.out _ 1 1 [.int .i64 x] (by rfl) (by rfl) (World.news_of_block (cs := #[.int .i64 x]) (t := 3) (fr := (0, 0)) BL2.out) (by simp [Value.oneCell']) (by omega) (by unfold maxLen; omega) (by omega) (by have := JS _ JC2.out; omega) _ rfl ?_
        intro gL capL u3 hown3 hgr3 hat3 hlt3
        refine hK.out _ _ (JL _ _ JC2.out hgr3) (fun _ => ?_)
        try simp only [Act.put, List.setIfInBounds_toArray, List.set_cons_zero, List.set_cons_succ]
        have hq3 := JS _ JC2.out; have hqq3 := hgr3.size
        have JC3 := hide (JL _ _ JC2.out hgr3)
        have RL3 := hide hown3
        have RT3 := hide (or_grown RT2.out hgr3 NTL.out)
        have BT3 := hide (bs_fresh BT2.out hgr3 FL.out (by omega))
        have LIL := hide (show vl.ownBlock = some gL ∨ W.heap.size ≤ gL from hat3.elim .inl (fun e => .inr (by omega)))
        clear hgr3 hown3 hat3
        refine wpAnyH_ready (rs := [18]) (by kernel_rfl) (by simp) ?_
        refine cons_ rfl (fun K hK => ?_) ?_
        · refine step_append_lies _ (by rfl) (.tmp 16) (.tmp 21) _ (by rfl) (h + 1) 3 i0 _ 1 8 Try.underlying22 hi hz0 hz1 hz2 rfl (by omega) vt m (intsOf T) (by rfl) RT3.out _ 1 1 [.int .i64 now] (by rfl) (by rfl) (World.news_of_block (cs := #[.int .i64 now]) (t := 3) (fr := (0, 0)) BT3.out) (by simp [Value.oneCell']) (by omega) (by unfold maxLen; omega) (by omega) (by have := JS _ JC3.out; omega) _ rfl ?_
          intro gT capT u4 hown4 hgr4 hat4 hlt4
          refine hK.out _ _ (JT _ _ JC3.out hgr4) (fun _ => ?_)
          try simp only [Act.put, List.setIfInBounds_toArray, List.set_cons_zero, List.set_cons_succ]
          have hq4 := JS _ JC3.out; have hqq4 := hgr4.size
          have JC4 := hide (JT _ _ JC3.out hgr4)
          have RT4 := hide hown4
          have RL4 := hide (or_grown RL3.out hgr4 (.inl (ne_new (fun e => LIL.out.elim (fun e2 => NLT.out.elim (fun e3 => e3 (by rw [e2, e])) (fun e3 => by rw [e3] at e2; cases e2)) (fun e2 => by have := FT.out _ e; omega)))))
          have LIT := hide (show vt.ownBlock = some gT ∨ W.heap.size ≤ gT from hat4.elim .inl (fun e => .inr (by omega)))
          have NE := hide (show gT ≠ gL from fun e => hat4.elim (fun e1 => LIL.out.elim (fun e2 => NLT.out.elim (fun e3 => e3 (by rw [e2, e1, e])) (fun e3 => by rw [e3] at e2; cases e2)) (fun e2 => by have := FT.out _ e1; omega)) (fun e1 => by omega))
          clear hgr4 hown4 hat4
          refine wpAnyH_done (by kernel_rfl) ?_ _
          obtain ⟨hO, TW⟩ := JC4.out
          obtain ⟨k0, k1, k2, k3, fzz⟩ := cells4 hO
          have TWH := hide TW
          clear TW hO
          dsimp only [TailPost]
          go_wp2
          go_end0
          exact ⟨rfl, some gL, some gT, capL, capT, turned2 HF.out TWH.out (own_snoc RL4.out HNM.out.1) (own_snoc RT4.out HNM.out.2) (fun g e => by cases e; rw [← B12.out.1]; exact LIL.out) (fun g e => by cases e; rw [← B12.out.2]; exact LIT.out) (fun g e e2 => by cases e; cases e2; exact NE.out rfl) (by rw [List.length_append, List.length_append, HNM.out.1, HNM.out.2]; rfl)⟩
        exact nil_
      exact nil_
    exact nil_
  refine cons_ rfl (fun K hK => ?_) ?_
  · go_simp
    refine hK.out _ _ (JN _ _ JC0.out (World.grownBy_alloc _ _ none)) (fun _ => ?_)
    try simp only [Act.put, List.setIfInBounds_toArray, List.set_cons_zero, List.set_cons_succ]
    refine letter_ (fun w3 => w0.grownBy w3 none ∧ w3.heap[w0.heap.size]? = some (.cells #[.int .i64 now] 3 (0, 0))) ⟨World.grownBy_alloc _ _ none, bs_new rfl⟩ ?_
    rintro u1 ⟨hg1, hb1⟩
    have hq1 := JS _ JC0.out; have hqq1 := hg1.size
    have JC1 := hide (JN _ _ JC0.out hg1)
    have RL1 := hide (or_grown RL0.out hg1 (none_ne _))
    have RT1 := hide (or_grown RT0.out hg1 (none_ne _))
    have BT1 := hide hb1
    generalize w0.heap.size = blT at *
    clear hg1 hb1
    refine wpAnyH_ready (rs := [7]) (by kernel_rfl) (by simp) ?_
    refine cons_ rfl (fun K hK => ?_) ?_
    · go_simp
      refine hK.out _ _ (JN _ _ JC1.out (World.grownBy_alloc _ _ none)) (fun _ => ?_)
      try simp only [Act.put, List.setIfInBounds_toArray, List.set_cons_zero, List.set_cons_succ]
      refine letter_ (fun w3 => u1.grownBy w3 none ∧ w3.heap[u1.heap.size]? = some (.cells #[.int .i64 x] 3 (0, 0))) ⟨World.grownBy_alloc _ _ none, bs_new rfl⟩ ?_
      rintro u2 ⟨hg2, hb2⟩
      have hq2 := JS _ JC1.out; have hqq2 := hg2.size
      have JC2 := hide (JN _ _ JC1.out hg2)
      have RL2 := hide (or_grown RL1.out hg2 (none_ne _))
      have RT2 := hide (or_grown RT1.out hg2 (none_ne _))
      have BT2 := hide (bs_grown BT1.out hg2 (by simp))
      have BL2 := hide hb2
      generalize u1.heap.size = blL at *
      clear hg2 hb2
      refine wpAnyH_ready (rs := [8]) (by kernel_rfl) (by simp) ?_
      refine cons_ rfl (fun K hK => ?_) ?_
      · refine step_append_lies _ (by rfl) (.tmp 9) (.tmp 11) _ (by rfl) (h + 1) 3 i0 _ 1 8 Try.underlying22 hi hz0 hz1 hz2 rfl (by omega) vl n (intsOf L) (by rfl) RL2.out _ 1 1 [.int .i64 x] (by rfl) (by rfl) (World.news_of_block (cs := #[.int .i64 x]) (t := 3) (fr := (0, 0)) BL2.out) (by simp [Value.oneCell']) (by omega) (by unfold maxLen; omega) (by omega) (by have := JS _ JC2.out; omega) _ rfl ?_
        intro gL capL u3 hown3 hgr3 hat3 hlt3
        refine hK.out _ _ (JL _ _ JC2.out hgr3) (fun _ => ?_)
        try simp only [Act.put, List.setIfInBounds_toArray, List.set_cons_zero, List.set_cons_succ]
        have hq3 := JS _ JC2.out; have hqq3 := hgr3.size
        have JC3 := hide (JL _ _ JC2.out hgr3)
        have RL3 := hide hown3
        have RT3 := hide (or_grown RT2.out hgr3 NTL.out)
        have BT3 := hide (bs_fresh BT2.out hgr3 FL.out (by omega))
        have LIL := hide (show vl.ownBlock = some gL ∨ W.heap.size ≤ gL from hat3.elim .inl (fun e => .inr (by omega)))
        clear hgr3 hown3 hat3
        refine wpAnyH_ready (rs := [18]) (by kernel_rfl) (by simp) ?_
        refine cons_ rfl (fun K hK => ?_) ?_
        · refine step_append_lies _ (by rfl) (.tmp 16) (.tmp 21) _ (by rfl) (h + 1) 3 i0 _ 1 8 Try.underlying22 hi hz0 hz1 hz2 rfl (by omega) vt m (intsOf T) (by rfl) RT3.out _ 1 1 [.int .i64 now] (by rfl) (by rfl) (World.news_of_block (cs := #[.int .i64 now]) (t := 3) (fr := (0, 0)) BT3.out) (by simp [Value.oneCell']) (by omega) (by unfold maxLen; omega) (by omega) (by have := JS _ JC3.out; omega) _ rfl ?_
          intro gT capT u4 hown4 hgr4 hat4 hlt4
          refine hK.out _ _ (JT _ _ JC3.out hgr4) (fun _ => ?_)
          try simp only [Act.put, List.setIfInBounds_toArray, List.set_cons_zero, List.set_cons_succ]
          have hq4 := JS _ JC3.out; have hqq4 := hgr4.size
          have JC4 := hide (JT _ _ JC3.out hgr4)
          have RT4 := hide hown4
          have RL4 := hide (or_grown RL3.out hgr4 (.inl (ne_new (fun e => LIL.out.elim (fun e2 => NLT.out.elim (fun e3 => e3 (by rw [e2, e])) (fun e3 => by rw [e3] at e2; cases e2)) (fun e2 => by have := FT.out _ e; omega)))))
          have LIT := hide (show vt.ownBlock = some gT ∨ W.heap.size ≤ gT from hat4.elim .inl (fun e => .inr (by omega)))
          have NE := hide (show gT ≠ gL from fun e => hat4.elim (fun e1 => LIL.out.elim (fun e2 => NLT.out.elim (fun e3 => e3 (by rw [e2, e1, e])) (fun e3 => by rw [e3] at e2; cases e2)) (fun e2 => by have := FT.out _ e1; omega)) (fun e1 => by omega))
          clear hgr4 hown4 hat4
          refine wpAnyH_done (by kernel_rfl) ?_ _
          obtain ⟨hO, TW⟩ := JC4.out
          obtain ⟨k0, k1, k2, k3, fzz⟩ := cells4 hO
          have TWH := hide TW
          clear TW hO
          dsimp only [TailPost]
          go_wp2
          go_end0
          exact ⟨rfl, some gL, some gT, capL, capT, turned2 HF.out TWH.out (own_snoc RL4.out HNM.out.1) (own_snoc RT4.out HNM.out.2) (fun g e => by cases e; rw [← B12.out.1]; exact LIL.out) (fun g e => by cases e; rw [← B12.out.2]; exact LIT.out) (fun g e e2 => by cases e; cases e2; exact NE.out rfl) (by rw [List.length_append, List.length_append, HNM.out.1, HNM.out.2]; rfl)⟩
        exact nil_
      exact nil_
    exact nil_
  exact nil_
end Go.Proofs.Ytnpeklimpdljbaa.EpocRef2


