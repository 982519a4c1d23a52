/- Pools: a law's own account of the buffers beside the pool: words for it, and what each step turns. Plain theorems about the model. -/
import Derived.Test.YtlkejpdclnbcoaaPoolV4
namespace Go.Proofs.Ytlkejpdclnbcoaa.PoolPlaysM
open Go Go.RowKit Go.Proofs.YtlkejpdclnbcoaaKit Go.Proofs.Ytlkejpdclnbcoaa.Mem Go.Proofs.YtlkejpdclnbcoaaW.PrintWords Go.Proofs.YtlkejpdclnbcoaaW.PrintLast Go.Proofs.Ytlkejpdclnbcoaa.Inn Go.Proofs.Ytlkejpdclnbcoaa.Split Go.Proofs.Ytlkejpdclnbcoaa.PoolV
open Go.Proofs.Ytlkejpdclnbcoaa.PoolBase (Fr far_setCells)
set_option linter.unusedVariables false
set_option linter.unusedSimpArgs false
/-- Used, generation, what it holds. -/
abbrev Sl := Bool × Int × Int
def Fit (b : Bf) (s : Sl) : Prop := b.gen = s.2.1 ∧ b.t = s.1 ∧ (s.1 = true → b.w = s.2.2 + 1 ∧ b.rs = [[(0, s.2.2)]] ∧ b.n = 1)
structure Rel (bs : List Bf) (S : List Sl) : Prop where
  len : bs.length = S.length
  fit : ∀ (k : Nat) (b : Bf) (s : Sl), bs[k]? = some b → S[k]? = some s → Fit b s
theorem Rel.set {bs : List Bf} {S : List Sl} (h : Rel bs S) (k : Nat) {b : Bf} {s : Sl} (hf : Fit b s) : Rel (bs.set k b) (S.set k s) := by
  refine ⟨by rw [List.length_set, List.length_set, h.len], fun j c t hc ht => ?_⟩
  rw [List.getElem?_set] at hc ht
  split at hc
  · rename_i e
    rw [if_pos e] at ht
    split at hc <;> split at ht <;> simp at hc ht
    subst hc ht; exact hf
  · rename_i e
    rw [if_neg e] at ht
    exact h.fit j c t hc ht
theorem Rel.at_ {bs : List Bf} {S : List Sl} (h : Rel bs S) {k : Nat} {s : Sl} (hs : S[k]? = some s) : ∃ b, bs[k]? = some b ∧ Fit b s := by
  have hl := (List.getElem?_eq_some_iff.1 hs).1
  refine ⟨bs[k]'(by rw [h.len]; exact hl), List.getElem?_eq_getElem _, h.fit k _ s (List.getElem?_eq_getElem _) hs⟩
def freeS (S : List Sl) : Int := (((S.filter fun s => !s.1).length : Nat) : Int)
theorem freeS_take (S : List Sl) (i : Nat) (b : Sl) (hb : S[i]? = some b) : freeS (S.take (i + 1)) = freeS (S.take i) + (if b.1 = true then 0 else 1) := by
  unfold freeS
  rw [List.take_add_one, hb, Option.toList_some, List.filter_append, List.length_append]
  cases hb2 : b.1 <;> simp [hb2]
theorem freeS_le (S : List Sl) (i : Nat) : 0 ≤ freeS (S.take i) ∧ freeS (S.take i) ≤ i := by
  unfold freeS
  have h1 := List.length_filter_le (fun b : Sl => !b.1) (S.take i)
  have h2 := List.length_take_le i S
  omega
theorem Rel.free {bs : List Bf} {S : List Sl} (h : Rel bs S) : freeN bs = freeS S := by
  unfold freeN freeS
  have e : bs.map (fun b => b.t) = S.map (fun s => s.1) := by
    apply List.ext_getElem?
    intro k
    rw [List.getElem?_map, List.getElem?_map]
    cases hs : S[k]? with
    | none => rw [List.getElem?_eq_none (by rw [h.len]; exact List.getElem?_eq_none_iff.1 hs)]; rfl
    | some s =>
      obtain ⟨b, hb, hf⟩ := h.at_ hs
      rw [hb]; simp [hf.2.1]
  have e1 : (bs.filter fun b => !b.t).length = ((bs.map (fun b => b.t)).filter fun x => !x).length := by
    rw [List.filter_map, List.length_map]; rfl
  have e2 : (S.filter fun s => !s.1).length = ((S.map (fun s => s.1)).filter fun x => !x).length := by
    rw [List.filter_map, List.length_map]; rfl
  rw [e1, e2, e]
/-- The least free place from j on; -1: there is none. -/
def wantFrom (S : List Sl) (j : Nat) : Int := match (S.drop j).findIdx? (fun s => !s.1) with | some q => ((j + q : Nat) : Int) | none => -1
theorem want_end (S : List Sl) (j : Nat) (h : S.length ≤ j) : wantFrom S j = -1 := by
  unfold wantFrom; rw [List.drop_eq_nil_of_le h]; rfl
theorem want_step (S : List Sl) (j : Nat) (s : Sl) (hs : S[j]? = some s) : wantFrom S j = if s.1 = true then wantFrom S (j + 1) else (j : Int) := by
  have hl := (List.getElem?_eq_some_iff.1 hs).1
  have e : S.drop j = s :: S.drop (j + 1) := by
    rw [List.drop_eq_getElem_cons hl]
    rw [List.getElem?_eq_getElem hl] at hs
    cases hs; rfl
  unfold wantFrom
  rw [e, List.findIdx?_cons]
  cases h1 : s.1
  · simp
  · simp only [Bool.not_true, if_pos, Bool.false_eq_true, if_false]
    cases (S.drop (j + 1)).findIdx? (fun s => !s.1) with
    | none => rfl
    | some q => simp; omega
theorem want_cases (S : List Sl) : ∀ d j : Nat, S.length - j = d → (∃ (k : Nat) (s : Sl), j ≤ k ∧ wantFrom S j = (k : Int) ∧ S[k]? = some s ∧ s.1 = false ∧ ∀ i, j ≤ i → i < k → ∃ s, S[i]? = some s ∧ s.1 = true) ∨ (wantFrom S j = -1 ∧ ∀ i, j ≤ i → i < S.length → ∃ s, S[i]? = some s ∧ s.1 = true)
  | 0, j, h => .inr ⟨want_end S j (by omega), fun i h1 h2 => by omega⟩
  | d + 1, j, h => by
    obtain ⟨s, hs⟩ : ∃ s, S[j]? = some s := ⟨_, List.getElem?_eq_getElem (by omega)⟩
    rw [want_step S j s hs]
    cases h1 : s.1 with
    | false => exact .inl ⟨j, s, Nat.le_refl _, by simp, hs, h1, fun i h2 h3 => by omega⟩
    | true =>
      rw [if_pos rfl]
      have hall : ∀ i, j ≤ i → i < j + 1 → ∃ s, S[i]? = some s ∧ s.1 = true := fun i h2 h3 => by obtain rfl : i = j := (by omega); exact ⟨s, hs, h1⟩
      rcases want_cases S d (j + 1) (by omega) with ⟨k, t, h2, h3, h4, h5, h6⟩ | ⟨h2, h3⟩
      · exact .inl ⟨k, t, by omega, h3, h4, h5, fun i h7 h8 => by
          by_cases h9 : i < j + 1
          · exact hall i h7 h9
          · exact h6 i (by omega) h8⟩
      · exact .inr ⟨h2, fun i h7 h8 => by
          by_cases h9 : i < j + 1
          · exact hall i h7 h9
          · exact h3 i (by omega) h8⟩
/-- The law's own rows. -/
structure Ar (w W : World) (bg bu bw : Nat) (S : List Sl) : Prop where
  cg : W.heap[bg]? = some (.cells (S.map fun s => Value.int .i64 s.2.1).toArray 3 (0, 0))
  cu : W.heap[bu]? = some (.cells (S.map fun s => Value.bool s.1).toArray 4 (0, 0))
  cw : W.heap[bw]? = some (.cells (S.map fun s => Value.int .i64 s.2.2).toArray 3 (0, 0))
  gu : bg ≠ bu
  gw : bg ≠ bw
  uw : bu ≠ bw
  lg : w.heap.size ≤ bg
  lu : w.heap.size ≤ bu
  lw : w.heap.size ≤ bw
theorem ty_ne {W : World} {a b : Nat} {c1 c2 : Array Value} {t1 t2 : TypeId} {f1 f2 : Nat × Nat} (h1 : W.heap[a]? = some (.cells c1 t1 f1)) (h2 : W.heap[b]? = some (.cells c2 t2 f2)) (ht : t1 ≠ t2) : a ≠ b := fun e => by
  subst e
  rw [h1] at h2
  injection h2 with e1
  injection e1 with _ e2
  exact ht e2
theorem Ar.keep {w W W' : World} {bg bu bw : Nat} {S : List Sl} (h : Ar w W bg bu bw S) (hk : ∀ k, (k = bg ∨ k = bu ∨ k = bw) → W'.heap[k]? = W.heap[k]?) : Ar w W' bg bu bw S :=
  ⟨(hk bg (.inl rfl)).trans h.cg, (hk bu (.inr (.inl rfl))).trans h.cu, (hk bw (.inr (.inr rfl))).trans h.cw, h.gu, h.gw, h.uw, h.lg, h.lu, h.lw⟩
theorem Ar.below {w W W' : World} {bg bu bw : Nat} {S : List Sl} (h : Ar w W bg bu bw S) (hb : Below W.heap.size W W') : Ar w W' bg bu bw S :=
  h.keep fun k hk => by
    rcases hk with rfl | rfl | rfl
    · exact hb.block _ (bs_lt h.cg)
    · exact hb.block _ (bs_lt h.cu)
    · exact hb.block _ (bs_lt h.cw)
theorem Ar.fr {w W W' : World} {bg bu bw pb : Nat} {S : List Sl} {cur : Array Value} (h : Ar w W bg bu bw S) (hf : Fr pb W W') (hp : W.heap[pb]? = some (.cells cur 78 (0, 0))) : Ar w W' bg bu bw S :=
  h.keep fun k hk => by
    rcases hk with rfl | rfl | rfl
    · exact hf _ (bs_lt h.cg) (ty_ne h.cg hp (by decide))
    · exact hf _ (bs_lt h.cu) (ty_ne h.cu hp (by decide))
    · exact hf _ (bs_lt h.cw) (ty_ne h.cw hp (by decide))
theorem Ar.cell {w W : World} {bg bu bw : Nat} {S : List Sl} (h : Ar w W bg bu bw S) {k : Nat} {s : Sl} (hs : S[k]? = some s) : W.cell? ⟨bg, k, none⟩ = some (.int .i64 s.2.1) ∧ W.cell? ⟨bu, k, none⟩ = some (.bool s.1) ∧ W.cell? ⟨bw, k, none⟩ = some (.int .i64 s.2.2) := by
  refine ⟨?_, ?_, ?_⟩
  · rw [bs_cell h.cg k, List.getElem?_toArray, List.getElem?_map, hs]; rfl
  · rw [bs_cell h.cu k, List.getElem?_toArray, List.getElem?_map, hs]; rfl
  · rw [bs_cell h.cw k, List.getElem?_toArray, List.getElem?_map, hs]; rfl
theorem Ar.used {w W : World} {bg bu bw : Nat} {S : List Sl} (h : Ar w W bg bu bw S) (k : Nat) (s : Sl) (hs : S[k]? = some s) (u : Bool) : Ar w (W.setCell ⟨bu, k, none⟩ (.bool u)) bg bu bw (S.set k (u, s.2.1, s.2.2)) := by
  refine ⟨?_, ?_, ?_, h.gu, h.gw, h.uw, h.lg, h.lu, h.lw⟩
  · rw [Below.heap_setCell _ _ _ _ h.gu, List.map_set, ← (show (S.map fun s => Value.int .i64 s.2.1).set k (.int .i64 s.2.1) = S.map fun s => Value.int .i64 s.2.1 by
      apply List.ext_getElem?; intro j; rw [List.getElem?_set]; split
      · rename_i e; subst e; rw [List.getElem?_map, hs]; split <;> simp_all
      · rfl)]
    simp only [List.set_set]
    rw [show (S.map fun s => Value.int .i64 s.2.1).set k (.int .i64 s.2.1) = S.map fun s => Value.int .i64 s.2.1 by
      apply List.ext_getElem?; intro j; rw [List.getElem?_set]; split
      · rename_i e; subst e; rw [List.getElem?_map, hs]; split <;> simp_all
      · rfl]
    exact h.cg
  · have h2 := bs_same (i := k) (v := .bool u) h.cu
    rw [List.setIfInBounds_toArray] at h2
    rw [h2, List.map_set]
  · rw [Below.heap_setCell _ _ _ _ (Ne.symm h.uw), List.map_set]
    rw [show (S.map fun s => Value.int .i64 s.2.2).set k (.int .i64 s.2.2) = S.map fun s => Value.int .i64 s.2.2 by
      apply List.ext_getElem?; intro j; rw [List.getElem?_set]; split
      · rename_i e; subst e; rw [List.getElem?_map, hs]; split <;> simp_all
      · rfl]
    exact h.cw
theorem Ar.put {w W : World} {bg bu bw : Nat} {S : List Sl} (h : Ar w W bg bu bw S) (k : Nat) (g v : Int) (u : Bool) : Ar w (((W.setCell ⟨bg, k, none⟩ (.int .i64 g)).setCell ⟨bu, k, none⟩ (.bool u)).setCell ⟨bw, k, none⟩ (.int .i64 v)) bg bu bw (S.set k (u, g, v)) := by
  refine ⟨?_, ?_, ?_, h.gu, h.gw, h.uw, h.lg, h.lu, h.lw⟩
  · rw [Below.heap_setCell _ _ _ _ h.gw, Below.heap_setCell _ _ _ _ h.gu]
    have h2 := bs_same (i := k) (v := .int .i64 g) h.cg
    rw [List.setIfInBounds_toArray] at h2
    rw [h2, List.map_set]
  · rw [Below.heap_setCell _ _ _ _ h.uw]
    have h1 : (W.setCell ⟨bg, k, none⟩ (.int .i64 g)).heap[bu]? = _ := (Below.heap_setCell _ _ _ _ (Ne.symm h.gu)).trans h.cu
    have h2 := bs_same (i := k) (v := .bool u) h1
    rw [List.setIfInBounds_toArray] at h2
    rw [h2, List.map_set]
  · have h1 : ((W.setCell ⟨bg, k, none⟩ (.int .i64 g)).setCell ⟨bu, k, none⟩ (.bool u)).heap[bw]? = _ := ((Below.heap_setCell _ _ _ _ (Ne.symm h.uw)).trans (Below.heap_setCell _ _ _ _ (Ne.symm h.gw))).trans h.cw
    have h2 := bs_same (i := k) (v := .int .i64 v) h1
    rw [List.setIfInBounds_toArray] at h2
    rw [h2, List.map_set]
/-- A store into a block of ints or truths leaves the pool. -/
theorem Pv.other {w W : World} {g pb : Nat} {bs : List Bf} {b i : Nat} {v : Value} {cur : Array Value} {t : TypeId} (h : Pv w W g pb bs) (hb : W.heap[b]? = some (.cells cur t (0, 0))) (ht : t = 3 ∨ t = 4) (hl : w.heap.size ≤ b) : Pv w (W.setCell ⟨b, i, none⟩ v) g pb bs := by
  have ng : g ≠ b := ty_ne h.pool hb (by rcases ht with rfl | rfl <;> decide)
  have np : pb ≠ b := ty_ne h.rows hb (by rcases ht with rfl | rfl <;> decide)
  refine ⟨(Below.heap_setCell _ _ _ _ ng).trans h.pool, (Below.heap_setCell _ _ _ _ np).trans h.rows, h.ne, h.geg, h.gep, be_set h.below hl, fun c hc => (h.cont c hc).keep fun q _ hlt ⟨d, hd⟩ => Below.heap_setCell _ _ _ _ (by
    rcases hd with hd | hd
    · exact ty_ne hd hb (by rcases ht with rfl | rfl <;> decide)
    · exact ty_ne hd hb (by rcases ht with rfl | rfl <;> decide))⟩
/-- All of it. -/
structure St (w W : World) (g pb bg bu bw m i : Nat) (S : List Sl) (bs : List Bf) : Prop where
  pool : Pv w W g pb bs
  rel : Rel bs S
  ar : Ar w W bg bu bw S
  len : S.length = m
  bnd : ∀ s ∈ S, 0 ≤ s.2.1 ∧ s.2.1 ≤ i ∧ 0 ≤ s.2.2 ∧ s.2.2 ≤ i
theorem St.below {w W W' : World} {g pb bg bu bw m i : Nat} {S : List Sl} {bs : List Bf} (h : St w W g pb bg bu bw m i S bs) (hb : Below W.heap.size W W') : St w W' g pb bg bu bw m i S bs :=
  ⟨h.pool.below_then hb, h.rel, h.ar.below hb, h.len, h.bnd⟩
theorem St.next {w W : World} {g pb bg bu bw m i : Nat} {S : List Sl} {bs : List Bf} (h : St w W g pb bg bu bw m i S bs) : St w W g pb bg bu bw m (i + 1) S bs :=
  ⟨h.pool, h.rel, h.ar, h.len, fun s hs => by have := h.bnd s hs; omega⟩
theorem St.pl {w W : World} {g pb bg bu bw m i : Nat} {S : List Sl} {bs : List Bf} (h : St w W g pb bg bu bw m i S bs) : bs.length = m := by rw [h.rel.len, h.len]
theorem Pv.below_w {w W : World} {g pb : Nat} {bs : List Bf} (h : Pv w W g pb bs) : Below w.heap.size w W := h.below
theorem st_begin {w W0 W : World} {g pb bg bu bw m : Nat} (hP : Pv w W0 g pb (List.replicate m ⟨0, none, 0, 0, [], 0, false⟩)) (hb : Below W0.heap.size W0 W)
    (cg : W.heap[bg]? = some (.cells (Array.replicate m (.int .i64 0)) 3 (0, 0))) (cu : W.heap[bu]? = some (.cells (Array.replicate m (.bool false)) 4 (0, 0))) (cw : W.heap[bw]? = some (.cells (Array.replicate m (.int .i64 0)) 3 (0, 0)))
    (gu : bg ≠ bu) (gw : bg ≠ bw) (uw : bu ≠ bw) (lg : W0.heap.size ≤ bg) (lu : W0.heap.size ≤ bu) (lw : W0.heap.size ≤ bw) : St w W g pb bg bu bw m 0 (List.replicate m (false, 0, 0)) (List.replicate m ⟨0, none, 0, 0, [], 0, false⟩) := by
  have hs := hP.below.size
  refine ⟨hP.below_then hb, ⟨by simp, fun k b s hb hs => ?_⟩, ⟨?_, ?_, ?_, gu, gw, uw, by omega, by omega, by omega⟩, by simp, fun s hs => ?_⟩
  · rw [List.getElem?_replicate] at hb hs
    split at hb
    · rename_i hk
      rw [if_pos hk] at hs
      cases hb; cases hs
      exact ⟨rfl, rfl, fun h => by cases h⟩
    · cases hb
  · rw [List.map_replicate, List.toArray_replicate]; exact cg
  · rw [List.map_replicate, List.toArray_replicate]; exact cu
  · rw [List.map_replicate, List.toArray_replicate]; exact cw
  · obtain ⟨_, rfl⟩ := List.mem_replicate.1 hs
    dsimp only
    omega
theorem Fr.below {pb : Nat} {W W1 W2 : World} (hb : Below W.heap.size W W1) (hf : Fr pb W1 W2) : Fr pb W W2 := fun k hk hne => (hf k (Nat.lt_of_lt_of_le hk hb.size) hne).trans (hb.block k hk)
theorem St.ar2 {w W W1 W2 : World} {g pb bg bu bw m i : Nat} {S : List Sl} {bs : List Bf} (h : St w W g pb bg bu bw m i S bs) (hb : Below W.heap.size W W1) (hf : Fr pb W1 W2) : Ar w W2 bg bu bw S :=
  (h.ar.below hb).fr hf (h.pool.below_then hb).rows
theorem St.took {w W W1 W2 : World} {g pb bg bu bw m i k : Nat} {S : List Sl} {bs : List Bf} {s : Sl} {b : Bf} (h : St w W g pb bg bu bw m i S bs) (hb : Below W.heap.size W W1) (hf : Fr pb W1 W2) (hp : Pv w W2 g pb (bs.set k b)) (hk : S[k]? = some s) (hfit : Fit b (true, s.2.1 + 1, (i : Int))) :
    St w (((W2.setCell ⟨bg, k, none⟩ (.int .i64 (s.2.1 + 1))).setCell ⟨bu, k, none⟩ (.bool true)).setCell ⟨bw, k, none⟩ (.int .i64 (i : Int))) g pb bg bu bw m (i + 1) (S.set k (true, s.2.1 + 1, (i : Int))) (bs.set k b) := by
  have ha := h.ar2 hb hf
  have hbd := h.bnd s (List.mem_of_getElem? hk)
  refine ⟨?_, h.rel.set k hfit, ha.put k _ _ _, by rw [List.length_set, h.len], fun t ht => ?_⟩
  · have p1 := Pv.other (i := k) (v := .int .i64 (s.2.1 + 1)) hp ha.cg (.inl rfl) ha.lg
    have c2 : (W2.setCell ⟨bg, k, none⟩ (.int .i64 (s.2.1 + 1))).heap[bu]? = _ := (Below.heap_setCell _ _ _ _ (Ne.symm ha.gu)).trans ha.cu
    have p2 := Pv.other (i := k) (v := .bool true) p1 c2 (.inr rfl) ha.lu
    have c3 : ((W2.setCell ⟨bg, k, none⟩ (.int .i64 (s.2.1 + 1))).setCell ⟨bu, k, none⟩ (.bool true)).heap[bw]? = _ := ((Below.heap_setCell _ _ _ _ (Ne.symm ha.uw)).trans (Below.heap_setCell _ _ _ _ (Ne.symm ha.gw))).trans ha.cw
    exact Pv.other p2 c3 (.inl rfl) ha.lw
  · rcases List.mem_or_eq_of_mem_set ht with ht | rfl
    · have := h.bnd t ht; omega
    · dsimp only; omega
/-- A row of one cell. -/
theorem rows1 {W : World} {b1 b2 : Nat} {v : Int} (h1 : W.heap[b1]? = some (.cells #[.int .i32 0, .int .i64 v] 49 (0, 0))) (h2 : W.heap[b2]? = some (.cells #[.slice (some ⟨b1, 0, none⟩) 1 1] 47 (0, 0))) : RowsAt W 0 (.slice (some ⟨b2, 0, none⟩) 1 1) [[(0, v)]] := by
  have ho : Own W 0 49 2 (some b1) 1 1 (RowsBase.flat [(0, v)]) := Own.lit h1 rfl (Nat.zero_le _) (by unfold maxLen; omega)
  exact ⟨some b2, 1, [.slice (some ⟨b1, 0, none⟩) 1 1], rfl, Own.lit h2 rfl (Nat.zero_le _) (show 1 ≤ maxLen by unfold maxLen; omega), Inn.one (lb := some b1) (k := 1) (r := [(0, v)]) ho⟩
theorem Kp.set {W w2 : World} {pb : Nat} (h : Kp W (some pb) w2) (i : Nat) (v : Value) : Kp W (some pb) (w2.setCell ⟨pb, i, none⟩ v) :=
  ⟨fun k hk hn => (Below.heap_setCell _ _ _ _ (fun e => hn (by rw [e]))).trans (h.1 k hk hn), by simpa using h.2⟩
theorem rows_far {W : World} {v : Value} {rs : List R} {b : Nat} {cur : Array Value} (h : RowsAt W 0 v rs) (hb : W.heap[b]? = some (.cells cur 26 (0, 0))) (a0 a1 a2 a3 a4 a5 : Value) :
    RowsAt ((((((W.setCell ⟨b, 0, none⟩ a0).setCell ⟨b, 1, none⟩ a1).setCell ⟨b, 2, none⟩ a2).setCell ⟨b, 3, none⟩ a3).setCell ⟨b, 4, none⟩ a4).setCell ⟨b, 5, none⟩ a5) 0 v rs :=
  h.keep fun q _ hlt ⟨d, hd⟩ => by
    have n : q ≠ b := by rcases hd with hd | hd <;> exact ty_ne hd hb (by decide)
    repeat rw [Below.heap_setCell _ _ _ _ n]
end Go.Proofs.Ytlkejpdclnbcoaa.PoolPlaysM


