/- Words for memory: rows that the call owns, rows that may be read, copies of rows of structs. Plain theorems, without a condition of their own. -/
import Derived.WalkKit
import Derived.KernelRfl
import Derived.Deep.MidRow
import Derived.Deep.AppendLies
import Derived.Laws.MakeOwn
import Derived.Laws.Rows
import Derived.Laws.OwnMore
import Derived.Laws.CopyOwn
import Derived.Deep.RegionLaw
import Derived.Maps.AppendAt
import Derived.Test.YtlkejpdclnbcoaaKit
namespace Go.Proofs.Ytlkejpdclnbcoaa.Mem
open Go Go.RowKit Go.Proofs.YtlkejpdclnbcoaaKit
set_option linter.unusedVariables false
set_option linter.unusedSimpArgs false
/-- A slice at the head of a block. -/
def sl (lb : Option Nat) (n cap : Nat) : Value := .slice (lb.map fun b => ⟨b, 0, none⟩) n cap
theorem sl_some (b n cap : Nat) : sl (some b) n cap = .slice (some ⟨b, 0, none⟩) n cap := rfl
theorem sl_to (lb : Option Nat) (n cap : Nat) : ∃ q : Option Addr, sl lb n cap = .slice q n cap := ⟨_, rfl⟩
theorem sl_block (lb : Option Nat) (n cap : Nat) : (sl lb n cap).ownBlock = lb := by cases lb <;> rfl
structure Own (W : World) (base : Nat) (e : TypeId) (k : Nat) (lb : Option Nat) (n cap : Nat) (xs : List Value) : Prop where
  owns : W.ownsRow base e k (sl lb n cap) n xs
section
variable {W W' : World} {base base' : Nat} {e e' : TypeId} {k k' : Nat} {lb lb' : Option Nat} {n cap n' cap' : Nat} {xs xs' : List Value}
theorem Own.cases (h : Own W base e k lb n cap xs) :
    (lb = none ∧ n = 0 ∧ cap = 0 ∧ xs = []) ∨ ∃ b cur, lb = some b ∧ base ≤ b ∧ W.heap[b]? = some (.cells cur e (0, 0)) ∧ cur.toList.take (n * k) = xs ∧ n * k ≤ cur.size := by
  obtain ⟨hl, h1 | ⟨g, cap', cur, hv, hg, hb, hn, hc, hs, ht⟩⟩ := h.owns
  · refine .inl ?_
    obtain ⟨hv, h0⟩ := h1
    cases lb with
    | none => simp [sl] at hv; exact ⟨rfl, h0, hv.2, List.eq_nil_of_length_eq_zero (by rw [hl, h0, Nat.zero_mul])⟩
    | some b => simp [sl] at hv
  · refine .inr ?_
    cases lb with
    | none => simp [sl] at hv
    | some b =>
      simp [sl] at hv
      obtain ⟨rfl, rfl⟩ := hv
      exact ⟨b, cur, rfl, hg, hb, ht, by rw [hs]; exact Nat.mul_le_mul_right _ hn⟩
theorem Own.keep (h : Own W base e k lb n cap xs) (hk : ∀ b, lb = some b → b < W.heap.size → W'.heap[b]? = W.heap[b]?) : Own W' base e k lb n cap xs := by
  obtain ⟨hl, h1 | ⟨g, cap', cur, hv, hg, hb, hn, hc, hs, ht⟩⟩ := h.owns
  · exact ⟨hl, .inl h1⟩
  · refine ⟨hl, .inr ⟨g, cap', cur, hv, hg, ?_, hn, hc, hs, ht⟩⟩
    cases lb with
    | none => simp [sl] at hv
    | some b =>
      simp [sl] at hv
      obtain ⟨rfl, rfl⟩ := hv
      rw [hk b rfl (bs_lt hb)]; exact hb
theorem Own.lower (h : Own W base e k lb n cap xs) (hb : base' ≤ base) : Own W base' e k lb n cap xs := by
  obtain ⟨hl, h1 | ⟨g, cap', cur, hv, hg, hb2, hn, hc, hs, ht⟩⟩ := h.owns
  · exact ⟨hl, .inl h1⟩
  · exact ⟨hl, .inr ⟨g, cap', cur, hv, by omega, hb2, hn, hc, hs, ht⟩⟩
theorem Own.below (h : Own W base e k lb n cap xs) (hb : Below W.heap.size W W') : Own W' base e k lb n cap xs := h.keep fun b _ hlt => hb.block b hlt
theorem Own.alloc (h : Own W base e k lb n cap xs) (o : Obj) : Own (W.alloc o) base e k lb n cap xs := h.below (be_alloc (be_refl _) (Nat.le_refl _))
theorem Own.drew (h : Own W base e k lb n cap xs) : Own W.drew base e k lb n cap xs := h.below (be_drew (be_refl _))
theorem Own.nil (W : World) (base : Nat) (e : TypeId) (k : Nat) : Own W base e k none 0 0 [] := ⟨World.ownsRow_nil _ _ _ _⟩
theorem Own.of {v : Value} (h : W.ownsRow base e k v n xs) : ∃ lb cap, v = sl lb n cap ∧ Own W base e k lb n cap xs := by
  have h' := h
  obtain ⟨hl, ⟨hv, h0⟩ | ⟨g, cap', cur, hv, hg, hb, hn, hc, hs, ht⟩⟩ := h'
  · subst hv h0; exact ⟨none, 0, rfl, ⟨h⟩⟩
  · subst hv; exact ⟨some g, cap', rfl, ⟨h⟩⟩
theorem Own.lit {b : Nat} {vs : List Value} (h : W.heap[b]? = some (.cells vs.toArray e (0, 0))) (hl : vs.length = n * k) (hb : base ≤ b) (hm : n ≤ maxLen) : Own W base e k (some b) n n vs :=
  ⟨hl, .inr ⟨b, n, vs.toArray, rfl, hb, h, Nat.le_refl _, hm, by rw [List.size_toArray]; exact hl, by rw [← hl]; exact List.take_length⟩⟩
theorem Own.len (h : Own W base e k lb n cap xs) : xs.length = n * k := h.owns.1
theorem Own.cell (h : Own W base e k lb n cap xs) (i : Nat) (v : Value) (hv : xs[i]? = some v) : ∃ b, lb = some b ∧ b < W.heap.size ∧ base ≤ b ∧ W.cell? ⟨b, i, none⟩ = some v := by
  rcases h.cases with ⟨_, _, _, h0⟩ | ⟨b, cur, rfl, hg, hb, ht, _⟩
  · subst h0; simp at hv
  · refine ⟨b, rfl, bs_lt hb, hg, ?_⟩
    rw [bs_cell hb, ← hv, ← ht, List.getElem?_take]
    have : i < n * k := by
      have := (List.getElem?_eq_some_iff.1 hv).1
      rw [h.len] at this; exact this
    rw [if_pos this, Array.getElem?_toList]
theorem own_base {b : Nat} (h : Own W base e k (some b) n cap xs) : base ≤ b ∧ b < W.heap.size := by
  rcases h.cases with ⟨h1, _⟩ | ⟨b', cur, h1, h2, h3, _⟩
  · cases h1
  · cases h1; exact ⟨h2, bs_lt h3⟩
theorem own_type {b : Nat} (h : Own W base e k (some b) n cap xs) : ∃ cur, W.heap[b]? = some (.cells cur e (0, 0)) := by
  rcases h.cases with ⟨h1, _⟩ | ⟨b', cur, h1, h2, h3, _⟩
  · cases h1
  · cases h1; exact ⟨cur, h3⟩
theorem own_apart {b : Nat} (h : Own W base e k (some b) n cap xs) (h' : Own W base' e' k' (some b) n' cap' xs') : e = e' := by
  obtain ⟨c1, h1⟩ := own_type h
  obtain ⟨c2, h2⟩ := own_type h'
  rw [h1] at h2
  injection h2 with e1
  injection e1
theorem Own.grown {row : Option Nat} (h : Own W base e k lb n cap xs) (hg : W.grownBy W' row) (hne : ∀ b, lb = some b → some b ≠ row) : Own W' base e k lb n cap xs :=
  h.keep fun b hb hlt => hg.block b hlt (hne b hb)
theorem below_grown {B : Nat} {w W w1 : World} {row : Option Nat} (hb : Below B w W) (hB : B ≤ W.heap.size) (hg : W.grownBy w1 row) (hr : ∀ b, row = some b → B ≤ b) : Below B w w1 :=
  ⟨hg.os.trans hb.os, hg.tape.trans hb.tape, hg.output.trans hb.output, Nat.le_trans hb.size hg.size, fun k hk => (hg.block k (by omega) (fun e => by have := hr k e.symm; omega)).trans (hb.block k hk)⟩
/-- A store into a row that is owned. -/
theorem Own.set {b i : Nat} (h : Own W base e k (some b) n cap xs) (v : Value) : Own (W.setCell ⟨b, i, none⟩ v) base e k (some b) n cap (xs.set i v) := by
  obtain ⟨hl, h1 | ⟨g, cap', cur, hv, hg, hb, hn, hc, hs, ht⟩⟩ := h.owns
  · obtain ⟨hv, _⟩ := h1; simp [sl] at hv
  · have hv' := hv
    simp [sl] at hv'
    obtain ⟨rfl, rfl⟩ := hv'
    refine ⟨by rw [List.length_set]; exact hl, .inr ⟨b, cap, cur.setIfInBounds i v, rfl, hg, bs_same hb, hn, hc, by rw [Array.size_setIfInBounds]; exact hs, ?_⟩⟩
    rw [Array.toList_setIfInBounds, List.take_set, ht]
theorem Own.far {p : Addr} (h : Own W base e k lb n cap xs) (hp : ∀ b, lb = some b → b ≠ p.block) (v : Value) : Own (W.setCell p v) base e k lb n cap xs :=
  h.keep fun b hb _ => Below.heap_setCell W p v b (hp b hb)
end
/-- A row of cells that may be read. -/
def Rd (W : World) (lo : Nat) (oa : Option Addr) (xs : List Value) : Prop := ∀ (j : Nat) (v : Value), xs[j]? = some v → ∃ a : Addr, oa = some a ∧ lo ≤ a.block ∧ W.cell? (a.add j) = some v
section
variable {W W' : World} {lo lo' : Nat} {oa : Option Addr} {xs : List Value}
theorem add_block (a : Addr) (j : Nat) : (a.add j).block = a.block := by unfold Addr.add; split <;> rfl
theorem add_head (b i : Nat) : (⟨b, 0, none⟩ : Addr).add i = ⟨b, i, none⟩ := by unfold Addr.add; split <;> simp_all
theorem add_head' (b o i : Nat) : (⟨b, o, none⟩ : Addr).add i = ⟨b, o + i, none⟩ := by unfold Addr.add; split <;> simp_all
theorem add_add' (a : Addr) (i j : Nat) : (a.add i).add j = a.add (i + j) := by
  unfold Addr.add
  by_cases hi : i = 0 <;> by_cases hj : j = 0 <;> simp [hi, hj, Nat.add_assoc]
theorem Rd.keep (h : Rd W lo oa xs) (hk : ∀ b, lo ≤ b → b < W.heap.size → W'.heap[b]? = W.heap[b]?) : Rd W' lo oa xs := fun j v hv => by
  obtain ⟨a, h1, h2, h3⟩ := h j v hv
  refine ⟨a, h1, h2, ?_⟩
  have hlt := World.block_lt_of_cell? W _ h3
  have := hk (a.add j).block (by rw [add_block]; exact h2) hlt
  unfold World.cell? at h3 ⊢
  rw [this]; exact h3
theorem Rd.below (h : Rd W lo oa xs) (hb : Below W.heap.size W W') : Rd W' lo oa xs := h.keep fun b _ hlt => hb.block b hlt
theorem Rd.lower (h : Rd W lo oa xs) (hl : lo' ≤ lo) : Rd W lo' oa xs := fun j v hv => by
  obtain ⟨a, h1, h2, h3⟩ := h j v hv
  exact ⟨a, h1, Nat.le_trans hl h2, h3⟩
theorem Rd.nil (W : World) (lo : Nat) (oa : Option Addr) : Rd W lo oa [] := fun j v hv => by simp at hv
theorem Rd.of {base : Nat} {e : TypeId} {k : Nat} {lb : Option Nat} {n cap : Nat} (h : Own W base e k lb n cap xs) : Rd W base (lb.map fun b => ⟨b, 0, none⟩) xs := fun j v hv => by
  obtain ⟨b, h1, h2, h3, h4⟩ := h.cell j v hv
  exact ⟨⟨b, 0, none⟩, by rw [h1]; rfl, h3, by rw [add_head]; exact h4⟩
theorem Rd.at_ (h : Rd W lo oa xs) (j : Nat) (v : Value) (hv : xs[j]? = some v) : ∃ a : Addr, oa = some a ∧ lo ≤ a.block ∧ W.cell? (a.add j) = some v := h j v hv
theorem Rd.sub {ys : List Value} {d : Nat} {a : Addr} (h : Rd W lo (some a) xs) (hy : ∀ j v, ys[j]? = some v → xs[d + j]? = some v) : Rd W lo (some (a.add d)) ys := fun j v hv => by
  obtain ⟨a', h1, h2, h3⟩ := h _ _ (hy j v hv)
  cases h1
  exact ⟨_, rfl, by rw [add_block]; exact h2, by rw [add_add']; exact h3⟩
end
section
variable (P : Program)
/-- copy between rows of structs of k cells, onto a row that is known whole. -/
theorem run_copy_rowN (w : World) (dT sT ty elem : TypeId) (k g o dLen dCap : Nat) (a : Addr) (sLen sCap : Nat) (cur : Array Value) (t : TypeId) (cs : List Value)
    (hu : P.underlying dT = some (.slice elem)) (hs : (P.info? elem).map (·.size) = some k) (hg : w.heap[g]? = some (.cells cur t (0, 0))) (hn : cs.length = Nat.min sLen dLen * k)
    (hsrc : ∀ j v, cs[j]? = some v → w.cell? (a.add j) = some v) (hfit : o + cs.length ≤ cur.size) (h1 : ∀ v ∈ cs, v.oneCell' = true) :
    (Builtin.copy_ #[dT, sT] ty #[.slice (some ⟨g, o, none⟩) dLen dCap, .slice (some a) sLen sCap]).run P w =
      .ok (goInt (Nat.min sLen dLen)) (w.setRow g (splice cur.toList o cs).toArray) := by
  have hl := run_loadCells_list (P := P) w a cs hsrc
  have hst := run_storeCells_at P g o t cs 0 cur w hg (by simpa using hfit) h1
  cases hq : P.info? elem with
  | none => simp [hq] at hs
  | some i =>
    have hi : i.size = k := by simpa [hq] using hs
    simp [Builtin.copy_, run_underlying hu, Builtin.lenOf, Builtin.firstCells, sizeOf, typeInfo, hq, hi, ← hn, hl, hst, splice]
theorem run_copy_noneN (w : World) (dT sT ty elem : TypeId) (k : Nat) (d a : Option Addr) (dLen dCap sLen sCap : Nat) (hu : P.underlying dT = some (.slice elem)) (hs : (P.info? elem).map (·.size) = some k) (hn : Nat.min sLen dLen = 0) :
    (Builtin.copy_ #[dT, sT] ty #[.slice d dLen dCap, .slice a sLen sCap]).run P w = .ok (goInt 0) w := by
  cases hq : P.info? elem with
  | none => simp [hq] at hs
  | some i =>
    have hi : i.size = k := by simpa [hq] using hs
    have hl : ∀ x : Addr, (loadCells x 0).run P w = .ok #[] w := fun x => run_loadCells_list (P := P) w x [] (fun j v h => by simp at h)
    cases a <;> cases d <;> simp [Builtin.copy_, run_underlying hu, Builtin.lenOf, Builtin.firstCells, sizeOf, typeInfo, hq, hi, hn, storeCells, hl]
end
section
variable {P : Program} (w : World)
theorem run_append_of_nil (base : Nat) (t ty e : TypeId) (i : TypeInfo) (size : Nat) (ht : P.underlying t = some (.slice e)) (hi : P.info? e = some i)
    (v : Value) (n : Nat) (xs : List Value) (hown : w.ownsRow base e size v n xs) (c : Nat) : (Builtin.append_ #[t, t] ty #[v, .slice none 0 c]).run P w = .ok v w := by
  rcases hown.2 with ⟨rfl, rfl⟩ | ⟨g, cap, cur, rfl, _, _, hnc, _⟩
  · simp [Builtin.append_, run_underlying ht, sizeOf, typeInfo, hi, Builtin.lenOf, Builtin.firstCells]
  · simp [Builtin.append_, run_underlying ht, sizeOf, typeInfo, hi, Builtin.lenOf, Builtin.firstCells, hnc, storeCells]
/-- append onto a row that is owned, whatever the source: nil, empty, or not. -/
theorem run_append_rd (base : Nat) (t ty e : TypeId) (i : TypeInfo) (z : Value) (size bytes : Nat) (ht : P.underlying t = some (.slice e)) (hi : P.info? e = some i) (hz : i.zero = some z)
    (hsize : i.size = size) (hby : i.bytes = bytes) (hzs : z.cells.size = size) (hsz : 0 < size)
    (lb : Option Nat) (n cap : Nat) (xs : List Value) (hown : Own w base e size lb n cap xs)
    (oa : Option Addr) (m c : Nat) (news : List Value) (hl : news.length = m * size) (hr : Rd w 0 oa news) (h1 : ∀ u ∈ news, u.oneCell' = true)
    (h63 : n + m ≤ maxLen) (hbytes : (n + m) * bytes ≤ 140737488355328) (hbase : base ≤ w.heap.size) :
    ∃ lb' cap' w', (Builtin.append_ #[t, t] ty #[sl lb n cap, .slice oa m c]).run P w = .ok (sl lb' (n + m) cap') w' ∧ Own w' base e size lb' (n + m) cap' (xs ++ news) ∧ w.grownBy w' lb ∧ (lb' = lb ∨ lb' = some w.heap.size) := by
  have key : ∃ v' w', (Builtin.append_ #[t, t] ty #[sl lb n cap, .slice oa m c]).run P w = .ok v' w' ∧ w'.ownsRow base e size v' (n + m) (xs ++ news) ∧ w.grownBy w' (sl lb n cap).ownBlock ∧ (v'.ownBlock = (sl lb n cap).ownBlock ∨ v'.ownBlock = some w.heap.size) := by
    rcases oa with _ | ad
    · have hn : news = [] := by
        cases news with
        | nil => rfl
        | cons u us => obtain ⟨a, h, _⟩ := hr 0 u rfl; cases h
      subst hn
      have hm : m = 0 := by
        rcases Nat.eq_zero_or_pos m with h0 | h0
        · exact h0
        · have := Nat.mul_pos h0 hsz; simp at hl; omega
      subst hm
      exact ⟨_, w, run_append_of_nil w base t ty e i size ht hi _ n xs hown.owns c, by simpa using hown.owns, World.grownBy.refl w _, .inl rfl⟩
    · have hcells : ∀ j u, news[j]? = some u → w.cell? (ad.add j) = some u := fun j u hu => by
        obtain ⟨a, h, _, hc⟩ := hr j u hu
        cases h
        exact hc
      obtain ⟨v', w', hrun, h2, h3, _, h5⟩ := run_append_own_at (P := P) w base t ty e i z size bytes ht hi hz hsize hby hzs hsz _ n xs hown.owns ad m c news hl hcells h1 h63 hbytes hbase
      exact ⟨v', w', hrun, h2, h3, h5⟩
  obtain ⟨v', w', h2, h3, h4, h5⟩ := key
  obtain ⟨lb', cap', rfl, h6⟩ := Own.of h3
  rw [sl_block] at h4 h5
  rw [sl_block] at h5
  exact ⟨lb', cap', w', h2, h6, h4, h5⟩
theorem wp_append_rd {o : Oper} {a : Act} {K : Act → World → Prop} {Q : Exit → Act → World → Prop} (s x : Operand) (t : TypeId)
    (ho : o.op = .call { callee := .builtin .append, args := #[s, x], argTypes := #[t, t] })
    (base : Nat) (e : TypeId) (i : TypeInfo) (z : Value) (size bytes : Nat) (ht : P.underlying t = some (.slice e)) (hi : P.info? e = some i) (hz : i.zero = some z)
    (hsize : i.size = size) (hby : i.bytes = bytes) (hzs : z.cells.size = size) (hsz : 0 < size)
    (lb : Option Nat) (n cap : Nat) (xs : List Value) (hs : a.eval s = sl lb n cap) (hown : Own w base e size lb n cap xs)
    (oa : Option Addr) (m c : Nat) (news : List Value) (hx : a.eval x = .slice oa m c) (hl : news.length = m * size) (hr : Rd w 0 oa news) (h1 : ∀ u ∈ news, u.oneCell' = true)
    (h63 : n + m ≤ maxLen) (hbytes : (n + m) * bytes ≤ 140737488355328) (hbase : base ≤ w.heap.size)
    (h : ∀ lb' cap' w', Own w' base e size lb' (n + m) cap' (xs ++ news) → w.grownBy w' lb → (lb' = lb ∨ lb' = some w.heap.size) → K (a.put o.dst (sl lb' (n + m) cap')) w') : o.wp P a w K Q := by
  obtain ⟨lb', cap', w', hrun, h2, h3, h4⟩ := run_append_rd (P := P) w base t o.type e i z size bytes ht hi hz hsize hby hzs hsz lb n cap xs hown oa m c news hl hr h1 h63 hbytes hbase
  unfold Oper.wp execOp
  simp only [ho, resolve, invoke, builtin, Sem.run_bind, Sem.run_pure, Result.andThen_ok, List.map_toArray, List.map_cons, List.map_nil, hs, hx, hrun]
  exact h lb' cap' w' h2 h3 h4
theorem wpList_append_rd {ops : Array Oper} {rest : List Oper} {o : Oper} {a : Act} {Q : Exit → Act → World → Prop} (hgd : o.guard = none) (s x : Operand) (t : TypeId)
    (ho : o.op = .call { callee := .builtin .append, args := #[s, x], argTypes := #[t, t] })
    (base : Nat) (e : TypeId) (i : TypeInfo) (z : Value) (size bytes : Nat) (ht : P.underlying t = some (.slice e)) (hi : P.info? e = some i) (hz : i.zero = some z)
    (hsize : i.size = size) (hby : i.bytes = bytes) (hzs : z.cells.size = size) (hsz : 0 < size)
    (lb : Option Nat) (n cap : Nat) (xs : List Value) (hs : a.eval s = sl lb n cap) (hown : Own w base e size lb n cap xs)
    (oa : Option Addr) (m c : Nat) (news : List Value) (hx : a.eval x = .slice oa m c) (hl : news.length = m * size) (hr : Rd w 0 oa news) (h1 : ∀ u ∈ news, u.oneCell' = true)
    (h63 : n + m ≤ maxLen) (hbytes : (n + m) * bytes ≤ 140737488355328) (hbase : base ≤ w.heap.size)
    (h : ∀ lb' cap' w', Own w' base e size lb' (n + m) cap' (xs ++ news) → w.grownBy w' lb → (lb' = lb ∨ lb' = some w.heap.size) → wpList P ops Q rest (a.put o.dst (sl lb' (n + m) cap')) w') : wpList P ops Q (o :: rest) a w :=
  wpList_plain hgd fun _ hK => wp_append_rd w s x t ho base e i z size bytes ht hi hz hsize hby hzs hsz lb n cap xs hs hown oa m c news hx hl hr h1 h63 hbytes hbase fun v' c' w' h2 h3 h4 => hK _ _ (h v' c' w' h2 h3 h4)
theorem splice_nil {α : Type} (L : List α) (off : Nat) : splice L off [] = L := by simp [splice]
theorem splice_take {α : Type} (L : List α) (off : Nat) (cs : List α) (m : Nat) (h : off + cs.length ≤ m) (hm : m ≤ L.length) : (splice L off cs).take m = splice (L.take m) off cs := by
  have h1 : (L.take off).length = off := by rw [List.length_take]; omega
  unfold splice
  rw [List.take_append, List.take_of_length_le (by omega), h1, List.take_append, List.take_of_length_le (show cs.length ≤ m - off by omega), List.drop_take, List.take_take, Nat.min_eq_left (by omega)]
  congr 3
  omega
theorem grown_setRow (g : Nat) (cs : Array Value) : w.grownBy (w.setRow g cs) (some g) :=
  ⟨rfl, rfl, rfl, by simp [World.setRow], fun k _ hne => setRow_other w g k cs (fun e => hne (congrArg some e))⟩
/-- copy onto a row that is owned, whatever the source. -/
theorem run_copy_rd (base : Nat) (dT sT ty e : TypeId) (k : Nat) (hu : P.underlying dT = some (.slice e)) (hs : (P.info? e).map (·.size) = some k) (hk : 0 < k)
    (lb : Option Nat) (n cap : Nat) (xs : List Value) (hown : Own w base e k lb n cap xs) (dp : Option Addr) (off dLen dCap : Nat) (sp : Option Addr) (sLen sCap : Nat) (cs : List Value)
    (hn : cs.length = Nat.min sLen dLen * k) (hdst : 0 < cs.length → ∃ g, lb = some g ∧ dp = some ⟨g, off, none⟩) (hsrc : Rd w 0 sp cs) (hfit : off + cs.length ≤ xs.length) (h1 : ∀ u ∈ cs, u.oneCell' = true) :
    ∃ w', (Builtin.copy_ #[dT, sT] ty #[.slice dp dLen dCap, .slice sp sLen sCap]).run P w = .ok (goInt (Nat.min sLen dLen)) w' ∧ Own w' base e k lb n cap (splice xs off cs) ∧ w.grownBy w' lb := by
  by_cases h0 : cs.length = 0
  · obtain rfl : cs = [] := List.eq_nil_of_length_eq_zero h0
    have hm : Nat.min sLen dLen = 0 := by
      rcases Nat.eq_zero_or_pos (Nat.min sLen dLen) with h | h
      · exact h
      · have := Nat.mul_pos h hk; simp at hn; omega
    refine ⟨w, ?_, by rw [splice_nil]; exact hown, World.grownBy.refl w _⟩
    rw [hm]
    exact run_copy_noneN P w dT sT ty e k dp sp dLen dCap sLen sCap hu hs hm
  · obtain ⟨g, rfl, rfl⟩ := hdst (by omega)
    obtain ⟨u, us, hc⟩ := List.exists_cons_of_length_pos (show 0 < cs.length by omega)
    obtain ⟨a, rfl, _, _⟩ := hsrc 0 u (by rw [hc]; rfl)
    obtain ⟨hl, h2 | ⟨g', cap', cur, hv, hg, hb, hnc, hcs, hsz, ht⟩⟩ := hown.owns
    · obtain ⟨hv, _⟩ := h2; simp [sl] at hv
    · have hv' := hv
      simp [sl] at hv'
      obtain ⟨rfl, rfl⟩ := hv'
      have hxl : xs.length ≤ cur.size := by rw [hl, hsz]; exact Nat.mul_le_mul_right _ hnc
      have hsrc' : ∀ j v, cs[j]? = some v → w.cell? (a.add j) = some v := fun j v hj => by
        obtain ⟨a', h, _, hc⟩ := hsrc j v hj
        cases h
        exact hc
      refine ⟨_, run_copy_rowN P w dT sT ty e k g off dLen dCap a sLen sCap cur e cs hu hs hb hn hsrc' (by omega) h1, ⟨by rw [length_splice _ _ _ hfit]; exact hl, .inr ⟨g, cap, _, rfl, hg, setRow_heap w g cur _ e _ hb, hnc, hcs, ?_, ?_⟩⟩, grown_setRow w g _⟩
      · rw [List.size_toArray, length_splice _ _ _ (by simp; omega)]
        simpa using hsz
      · show (splice cur.toList off cs).take (n * k) = splice xs off cs
        rw [splice_take _ _ _ _ (by rw [← hl]; exact hfit) (by rw [← hl]; simpa using hxl), ht]
theorem wp_copy_rd {o : Oper} {a : Act} {K : Act → World → Prop} {Q : Exit → Act → World → Prop} (d s : Operand) (dT sT : TypeId) (ho : o.op = .call { callee := .builtin .copy, args := #[d, s], argTypes := #[dT, sT] })
    (base : Nat) (e : TypeId) (k : Nat) (hu : P.underlying dT = some (.slice e)) (hs : (P.info? e).map (·.size) = some k) (hk : 0 < k)
    (lb : Option Nat) (n cap : Nat) (xs : List Value) (hown : Own w base e k lb n cap xs) (dp : Option Addr) (off dLen dCap : Nat) (sp : Option Addr) (sLen sCap : Nat) (hd : a.eval d = .slice dp dLen dCap) (hsv : a.eval s = .slice sp sLen sCap) (cs : List Value)
    (hn : cs.length = Nat.min sLen dLen * k) (hdst : 0 < cs.length → ∃ g, lb = some g ∧ dp = some ⟨g, off, none⟩) (hsrc : Rd w 0 sp cs) (hfit : off + cs.length ≤ xs.length) (h1 : ∀ u ∈ cs, u.oneCell' = true)
    (h : ∀ w', Own w' base e k lb n cap (splice xs off cs) → w.grownBy w' lb → K (a.put o.dst (goInt (Nat.min sLen dLen))) w') : o.wp P a w K Q := by
  obtain ⟨w', hrun, h2, h3⟩ := run_copy_rd (P := P) w base dT sT o.type e k hu hs hk lb n cap xs hown dp off dLen dCap sp sLen sCap cs hn hdst hsrc hfit h1
  unfold Oper.wp
  simp [execOp, ho, resolve, invoke, builtin, hd, hsv, hrun, Result.andThen]
  exact h w' h2 h3
theorem wpList_copy_rd {ops : Array Oper} {rest : List Oper} {o : Oper} {a : Act} {Q : Exit → Act → World → Prop} (hgd : o.guard = none) (d s : Operand) (dT sT : TypeId) (ho : o.op = .call { callee := .builtin .copy, args := #[d, s], argTypes := #[dT, sT] })
    (base : Nat) (e : TypeId) (k : Nat) (hu : P.underlying dT = some (.slice e)) (hs : (P.info? e).map (·.size) = some k) (hk : 0 < k)
    (lb : Option Nat) (n cap : Nat) (xs : List Value) (hown : Own w base e k lb n cap xs) (dp : Option Addr) (off dLen dCap : Nat) (sp : Option Addr) (sLen sCap : Nat) (hd : a.eval d = .slice dp dLen dCap) (hsv : a.eval s = .slice sp sLen sCap) (cs : List Value)
    (hn : cs.length = Nat.min sLen dLen * k) (hdst : 0 < cs.length → ∃ g, lb = some g ∧ dp = some ⟨g, off, none⟩) (hsrc : Rd w 0 sp cs) (hfit : off + cs.length ≤ xs.length) (h1 : ∀ u ∈ cs, u.oneCell' = true)
    (h : ∀ w', Own w' base e k lb n cap (splice xs off cs) → w.grownBy w' lb → wpList P ops Q rest (a.put o.dst (goInt (Nat.min sLen dLen))) w') : wpList P ops Q (o :: rest) a w :=
  wpList_plain hgd fun _ hK => wp_copy_rd w d s dT sT ho base e k hu hs hk lb n cap xs hown dp off dLen dCap sp sLen sCap hd hsv cs hn hdst hsrc hfit h1 fun w' h2 h3 => hK _ _ (h w' h2 h3)
theorem step_copy_rd {ops : Array Oper} {o : Oper} {a : Act} {K : Act → World → Prop} {Q : Exit → Act → World → Prop} {E : Prop} (hgd : o.guard = none) (d s : Operand) (dT sT : TypeId) (ho : o.op = .call { callee := .builtin .copy, args := #[d, s], argTypes := #[dT, sT] })
    (base : Nat) (e : TypeId) (k : Nat) (hu : P.underlying dT = some (.slice e)) (hs : (P.info? e).map (·.size) = some k) (hk : 0 < k)
    (lb : Option Nat) (n cap : Nat) (xs : List Value) (hown : Own w base e k lb n cap xs) (dp : Option Addr) (off dLen dCap : Nat) (sp : Option Addr) (sLen sCap : Nat) (hd : a.eval d = .slice dp dLen dCap) (hsv : a.eval s = .slice sp sLen sCap) (cs : List Value)
    (hn : cs.length = Nat.min sLen dLen * k) (hdst : 0 < cs.length → ∃ g, lb = some g ∧ dp = some ⟨g, off, none⟩) (hsrc : Rd w 0 sp cs) (hfit : off + cs.length ≤ xs.length) (h1 : ∀ u ∈ cs, u.oneCell' = true)
    (h : ∀ w', Own w' base e k lb n cap (splice xs off cs) → w.grownBy w' lb → K (a.put o.dst (goInt (Nat.min sLen dLen))) w') : if Region.wanted o (yielded ops a.tmps) = true then Oper.wp P o a w K Q else E := by
  have hw : Region.wanted o (yielded ops a.tmps) = true := by simp [Region.wanted, hgd]
  rw [if_pos hw]
  exact wp_copy_rd w d s dT sT ho base e k hu hs hk lb n cap xs hown dp off dLen dCap sp sLen sCap hd hsv cs hn hdst hsrc hfit h1 h
theorem step_append_rd {ops : Array Oper} {o : Oper} {a : Act} {K : Act → World → Prop} {Q : Exit → Act → World → Prop} {E : Prop} (hgd : o.guard = none) (s x : Operand) (t : TypeId)
    (ho : o.op = .call { callee := .builtin .append, args := #[s, x], argTypes := #[t, t] })
    (base : Nat) (e : TypeId) (i : TypeInfo) (z : Value) (size bytes : Nat) (ht : P.underlying t = some (.slice e)) (hi : P.info? e = some i) (hz : i.zero = some z)
    (hsize : i.size = size) (hby : i.bytes = bytes) (hzs : z.cells.size = size) (hsz : 0 < size)
    (lb : Option Nat) (n cap : Nat) (xs : List Value) (hs : a.eval s = sl lb n cap) (hown : Own w base e size lb n cap xs)
    (oa : Option Addr) (m c : Nat) (news : List Value) (hx : a.eval x = .slice oa m c) (hl : news.length = m * size) (hr : Rd w 0 oa news) (h1 : ∀ u ∈ news, u.oneCell' = true)
    (h63 : n + m ≤ maxLen) (hbytes : (n + m) * bytes ≤ 140737488355328) (hbase : base ≤ w.heap.size)
    (h : ∀ lb' cap' w', Own w' base e size lb' (n + m) cap' (xs ++ news) → w.grownBy w' lb → (lb' = lb ∨ lb' = some w.heap.size) → K (a.put o.dst (sl lb' (n + m) cap')) w') : if Region.wanted o (yielded ops a.tmps) = true then Oper.wp P o a w K Q else E := by
  have hw : Region.wanted o (yielded ops a.tmps) = true := by simp [Region.wanted, hgd]
  rw [if_pos hw]
  exact wp_append_rd w s x t ho base e i z size bytes ht hi hz hsize hby hzs hsz lb n cap xs hs hown oa m c news hx hl hr h1 h63 hbytes hbase h
end
end Go.Proofs.Ytlkejpdclnbcoaa.Mem


