/- Epochs: what Retire, Waiting and Advance do, and when two rows of numbers are the same: contracts, for every state. -/
import Derived.Deep.RegionLaw
import Derived.Test.YtnpeklimpdljbaaEpocOps
namespace Go.Proofs.Ytnpeklimpdljbaa.EpocRows
open Go.RowKit Go.Proofs.YtnpeklimpdljbaaKit Go.Proofs.YtnpeklimpdljbaaW.PrintWords Go.Proofs.YtnpeklimpdljbaaW.PrintLast Go.Proofs.Ytnpeklimpdljbaa.EpocBase Go.Proofs.Ytnpeklimpdljbaa.EpocOps
attribute [local go_sem] cell_alloc_some cell_alloc2_some cell_alloc3_some cell_alloc4_some
set_option linter.unusedVariables false
set_option linter.unusedSimpArgs false
theorem sl_block (lb : Option Nat) (n cap : Nat) : (sl lb n cap).ownBlock = lb := by cases lb <;> rfl
theorem own_base {W : World} {base : Nat} {e : TypeId} {k : Nat} {b n cap : Nat} {xs : List Value} (h : Own W base e k (some b) n cap xs) : base ≤ b ∧ b < W.heap.size := by
  rcases h.cases with ⟨h1, _⟩ | ⟨b', cur, h1, h2, h3, _⟩
  · cases h1
  · cases h1; exact ⟨h2, bs_lt h3⟩
theorem own_apart {W : World} {base base' : Nat} {e e' : TypeId} {k k' : Nat} {b n cap n' cap' : Nat} {xs xs' : List Value} (h : Own W base e k (some b) n cap xs) (h' : Own W base' e' k' (some b) n' cap' xs') : e = e' := by
  rcases h.cases with ⟨h1, _⟩ | ⟨b1, cur, h1, _, h3, _⟩
  · cases h1
  · rcases h'.cases with ⟨h1', _⟩ | ⟨b2, cur', h1', _, h3', _⟩
    · cases h1'
    · cases h1; cases h1'
      rw [h3] at h3'
      injection h3' with e1
      injection e1
theorem Own.grown {W w1 : World} {base : Nat} {e : TypeId} {k : Nat} {lb row : Option Nat} {n cap : Nat} {xs : List Value} (h : Own W base e k lb n cap xs) (hg : W.grownBy w1 row) (hne : ∀ b, lb = some b → some b ≠ row) : Own w1 base e k lb n cap xs :=
  h.keep fun b hb hlt => hg.block b hlt (hne b hb)
theorem below_grown {B : Nat} {w W w1 : World} {row : Option Nat} (hb : Below B w W) (hB : B ≤ W.heap.size) (hg : W.grownBy w1 row) (hr : ∀ b, row = some b → B ≤ b) : Below B w w1 :=
  ⟨hg.os.trans hb.os, hg.tape.trans hb.tape, hg.output.trans hb.output, Nat.le_trans hb.size hg.size, fun k hk => (hg.block k (by omega) (fun e => by have := hr k e.symm; omega)).trans (hb.block k hk)⟩
theorem retired {w W W0 w1 : World} {g pb : Nat} {lb : Option Nat} {cap : Nat} {now : Int} {ps : List Int} {xs : List (Int × Int)} (h : Ep w W g pb lb cap now ps xs) (h0 : Below W.heap.size W W0) {g' cap' n : Nat} {x : Int}
    (hg : W0.grownBy w1 lb) (hown : w1.ownsRow (g + 1) 49 2 (.slice (some ⟨g', 0, none⟩) (n + 1) cap') (n + 1) (flat xs ++ [.int .i64 x, .int .i64 now])) (hat : lb = some g' ∨ g' = W0.heap.size) (hn : xs.length = n) :
    Ep w (w1.setCell ⟨g, 2, none⟩ (.slice (some ⟨g', 0, none⟩) (n + 1) cap')) g pb (some g') cap' now ps (xs ++ [(x, now)]) ∧ Fr g pb W lb (w1.setCell ⟨g, 2, none⟩ (.slice (some ⟨g', 0, none⟩) (n + 1) cap')) (some g') := by
  subst hn
  have hlt := h.lt
  have hge := h.ge
  have hgs := bs_lt h.obj
  have hps := bs_lt h.pins
  have hs0 := h0.size
  have hlb : ∀ b, lb = some b → g + 1 ≤ b ∧ b < W.heap.size := fun b hb => by
    subst hb; exact own_base h.own
  have hg1 : w1.heap[g]? = W.heap[g]? := (hg.block g (by omega) (fun e => by have := hlb g e.symm; omega)).trans (h0.block g hgs)
  have hp1 : w1.heap[pb]? = W.heap[pb]? := (hg.block pb (by omega) (fun e => by have := hlb pb e.symm; omega)).trans (h0.block pb hps)
  have hxl : (xs ++ [(x, now)]).length = xs.length + 1 := by simp
  have hO : Own w1 (g + 1) 49 2 (some g') (xs.length + 1) cap' (flat (xs ++ [(x, now)])) := ⟨by rw [flat_append]; exact hown⟩
  have hg2 := own_base hO
  have hB : Below w.heap.size w w1 := below_grown (h.below.trans (h0.mono h.below.size)) (by have := h.below.size; omega) hg (fun b hb => by have := hlb b hb; omega)
  refine ⟨⟨?_, ?_, ?_, h.lt, h.ge, be_set hB (by dsimp only; omega)⟩, ⟨?_, ?_, ?_⟩⟩
  · have := bs_same (i := 2) (v := .slice (some ⟨g', 0, none⟩) (xs.length + 1) cap') (hg1.trans h.obj)
    rw [hxl]
    simpa [sl] using this
  · exact bs_far (hp1.trans h.pins) (by dsimp only; omega)
  · rw [hxl]
    exact hO.keep fun b hb _ => Below.heap_setCell w1 _ _ b (by cases hb; dsimp only; omega)
  · intro k hk k1 k2 k3
    exact (Below.heap_setCell w1 _ _ k k1).trans ((hg.block k (by omega) k3).trans (h0.block k hk))
  · intro k hk k3 e
    cases e
    rcases hat with h | h
    · exact k3 h.symm
    · omega
  · rw [World.size_setCell]
    exact Nat.le_trans hs0 hg.size
set_option maxHeartbeats 8000000 in
set_option maxRecDepth 100000 in
theorem retire_calls (x : Int) (w W : World) (g pb : Nat) (lb : Option Nat) (cap : Nat) (now : Int) (ps : List Int) (xs : List (Int × Int)) (h : Ep w W g pb lb cap now ps xs) (hl : xs.length ≤ 1000000) :
    Calls Try.prog 8 #[.pointer (some ⟨g, 0, none⟩), .int .i64 x] W fun e W' => e = .returned (.tuple #[]) ∧ ∃ lb' cap', Ep w W' g pb lb' cap' now ps (xs ++ [(x, now)]) ∧ Fr g pb W lb W' lb' := by
  obtain ⟨i0, hi, hz0, hz1, hz2⟩ := info_parts pairInfo
  have HP := hide h
  obtain ⟨c0, c1, c2⟩ := h.c
  have fz := bs_frozen h.obj 2
  have fza : ∀ o, (W.alloc o).frozen? ⟨g, 2, none⟩ = false := fun o => bs_frozen (bs_alloc h.obj) 2
  have cza : ∀ o, (W.alloc o).drew.cell? ⟨g, 2, none⟩ = some (sl lb xs.length cap) := fun o => (bs_cell (bs_alloc h.obj) 2).trans rfl
  have fzd : ∀ o, (W.alloc o).drew.frozen? ⟨g, 2, none⟩ = false := fun o => bs_frozen (bs_alloc h.obj) 2
  have hgs := bs_lt h.obj
  have hown := h.own.owns
  have hne : some g ≠ lb := fun e => by
    have := own_base (e ▸ h.own)
    omega
  obtain ⟨n, hn⟩ : ∃ n, xs.length = n := ⟨_, rfl⟩
  rw [hn] at hown c2 hl cza
  obtain ⟨v, hv⟩ : ∃ v, v = sl lb n cap := ⟨_, rfl⟩
  have hvb : v.ownBlock = lb := by rw [hv]; exact sl_block _ _ _
  rw [← hv] at hown c2 cza
  have HN := hide hn
  clear hv h hn
  rw [← hvb] at hne
  have HVB := hide hvb
  clear hvb
  go_enter Try.func8, Try.ntmps8
  go_wp2_with fail
  go_region_law
    ((refine step_append_lies _ (by rfl) _ _ _ (by rfl) (g + 1) 49 i0 _ 2 16 Try.underlying45 hi hz0 hz1 hz2 rfl (by omega) v n (flat xs) (by rfl) ((hown.alloc _).drew)
        ⟨W.heap.size, 0, none⟩ 1 1 [.int .i64 x, .int .i64 now] (by rfl) (by rfl) (World.news_of_block (cs := #[.int .i64 x, .int .i64 now]) (t := 49) (fr := (0, 0)) (heap_alloc_new W _)) (by simp [Value.oneCell'])
        (by omega) (by unfold maxLen; omega) (by omega) (by simp; omega) (W.heap.size + 1) (by simp) ?_; intro gg cap1 w1 hown1 hgrow hat hlt; have cz1 : w1.cell? ⟨g, 2, none⟩ = some v := (hgrow.cell_far _ (by simp; omega) hne).trans (cza _); have fz1 : w1.frozen? ⟨g, 2, none⟩ = false := (hgrow.frozen_far _ (by simp; omega) hne).trans (fzd _)))
  all_goals go_wp2
  all_goals go_end0
  all_goals (
    rw [HVB.out] at hgrow hat
    have R := retired HP.out (be_drew (be_alloc (be_refl W) (Nat.le_refl _))) hgrow hown1 (by simpa using hat) HN.out
    exact ⟨rfl, _, _, R.1, R.2⟩)
def intsOf (l : List Int) : List Value := l.map (.int .i64)
theorem ints_len (l : List Int) : (intsOf l).length = l.length := List.length_map _
theorem ints_append (a b : List Int) : intsOf (a ++ b) = intsOf a ++ intsOf b := List.map_append
/-- A row of numbers that may be read. -/
def Ints (W : World) (lb : Option Nat) (l : List Int) : Prop := ∀ (i : Nat) (z : Int), l[i]? = some z → ∃ b, lb = some b ∧ W.cell? ⟨b, i, none⟩ = some (.int .i64 z)
theorem Own.ints {W : World} {base : Nat} {e : TypeId} {lb : Option Nat} {n cap : Nat} {l : List Int} (h : Own W base e 1 lb n cap (intsOf l)) : Ints W lb l := fun i z hz => by
  have hl := (List.getElem?_eq_some_iff.1 hz).1
  have h1 := h.len
  rw [ints_len] at h1
  obtain ⟨b, hb, _, _, hc⟩ := h.cell (by omega) i (.int .i64 z) (by unfold intsOf; rw [List.getElem?_map, hz]; rfl)
  exact ⟨b, hb, hc⟩
theorem Ints.below {W W' : World} {lb : Option Nat} {l : List Int} (h : Ints W lb l) (hb : Below W.heap.size W W') : Ints W' lb l := fun i z hz => by
  obtain ⟨b, h1, h2⟩ := h i z hz
  exact ⟨b, h1, (hb.cell (p := ⟨b, i, none⟩) (World.block_lt_of_cell? W _ h2)).trans h2⟩
set_option maxHeartbeats 8000000 in
set_option maxRecDepth 100000 in
theorem same_calls (W : World) (la lb : Option Nat) (ca cb : Nat) (a b : List Int) (hca : a.length ≤ 1000000) (ha : Ints W la a) (hb : Ints W lb b) :
    Calls Try.prog 10 #[sl la a.length ca, sl lb b.length cb] W fun e W' => e = .returned (.bool (decide (a = b))) ∧ Below W.heap.size W W' := by
  obtain ⟨pa, hpa⟩ : ∃ pa : Option Addr, pa = la.map fun b => ⟨b, 0, none⟩ := ⟨_, rfl⟩
  obtain ⟨pb, hpb⟩ : ∃ pb : Option Addr, pb = lb.map fun b => ⟨b, 0, none⟩ := ⟨_, rfl⟩
  have HA := hide (show ∀ (W' : World) (i : Nat) (z : Int), Below W.heap.size W W' → a[i]? = some z → ∃ b, pa = some ⟨b, 0, none⟩ ∧ W'.cell? ⟨b, i, none⟩ = some (.int .i64 z) from fun W' i z hbw hz => by
    obtain ⟨b, h1, h2⟩ := ha.below hbw i z hz
    exact ⟨b, by rw [hpa, h1]; rfl, h2⟩)
  have HB := hide (show ∀ (W' : World) (i : Nat) (z : Int), Below W.heap.size W W' → b[i]? = some z → ∃ c, pb = some ⟨c, 0, none⟩ ∧ W'.cell? ⟨c, i, none⟩ = some (.int .i64 z) from fun W' i z hbw hz => by
    obtain ⟨c, h1, h2⟩ := hb.below hbw i z hz
    exact ⟨c, by rw [hpb, h1]; rfl, h2⟩)
  have e1 : sl la a.length ca = .slice pa a.length ca := by rw [hpa]; rfl
  have e2 : sl lb b.length cb = .slice pb b.length cb := by rw [hpb]; rfl
  rw [e1, e2]
  clear e1 e2 hpa hpb ha hb
  obtain ⟨n, hn⟩ : ∃ n, n = a.length := ⟨_, rfl⟩
  obtain ⟨m, hm⟩ : ∃ m, m = b.length := ⟨_, rfl⟩
  rw [← hn, ← hm]
  rw [← hn] at hca
  have HN := hide (And.intro hn hm)
  clear hn hm
  by_cases hnm : n = m
  · subst hnm
    go_enter Try.func10, Try.ntmps10
    go_wp2
    go_loopw [5] (fun v5 wr => ∃ i : Nat, i ≤ n ∧ v5 = .int .i64 (i : Int) ∧ Below W.heap.size W wr ∧ (∀ j, j < i → a[j]? = b[j]?)) (fun v5 _ => n - (intOf v5).toNat)
    case atStart => exact ⟨0, Nat.zero_le _, rfl, be_refl _, fun j hj => absurd hj (Nat.not_lt_zero _)⟩
    case round =>
      obtain ⟨i, hi, rfl, hbe, hok⟩ := hrel
      have HOK := hide hok
      have BE := hide hbe
      clear hok
      by_cases hlt : i < n
      · have p1 : ((i : Int) < (n : Int)) = True := eq_true (by omega)
        have p0 : (0 : Int) ≤ (i : Int) := by omega
        obtain ⟨z, hz⟩ : ∃ z, a[i]? = some z := ⟨_, List.getElem?_eq_getElem (by have := HN.out.1; omega)⟩
        obtain ⟨y, hy⟩ : ∃ y, b[i]? = some y := ⟨_, List.getElem?_eq_getElem (by have := HN.out.2; omega)⟩
        obtain ⟨q1, rfl, x1⟩ := HA.out wr i z hbe hz
        obtain ⟨q2, rfl, x2⟩ := HB.out wr i y hbe hy
        clear hbe
        by_cases hzy : z = y
        · subst hzy
          have NX : Hid (∀ j, j < i + 1 → a[j]? = b[j]?) := fun j hj => by
            by_cases hji : j = i
            · subst hji; rw [hz, hy]
            · exact HOK.out j (by omega)
          clear hz hy
          have hw : wrap64 ((i : Int) + 1) = (i : Int) + 1 := by unfold wrap64; omega
          go_upto_region 6 with fail
          go_region
          go_wp2
          refine ⟨⟨i + 1, by omega, by simp, by first | exact BE.out | exact be_drew BE.out, NX.out⟩, ?_⟩
          simp only [intOf]; omega
        · have hq : (z = y) = False := eq_false hzy
          have D : Hid (decide (a = b) = false) := decide_eq_false fun e => by
            subst e; rw [hz] at hy; cases hy; exact hzy rfl
          clear hz hy
          go_upto_region 6 with fail
          go_region
          go_wp2
          go_ret
          exact ⟨congrArg (fun b => Ending.returned (Value.bool b)) D.out.symm, by first | exact BE.out | exact be_drew BE.out⟩
      · have p1 : ((i : Int) < (n : Int)) = False := eq_false (by omega)
        have D : Hid (decide (a = b) = true) := decide_eq_true (List.ext_getElem? fun j => by
          by_cases hj : j < i
          · exact HOK.out j hj
          · have := HN.out
            rw [List.getElem?_eq_none (by omega), List.getElem?_eq_none (by omega)])
        go_wp2
        go_ret
        exact ⟨congrArg (fun b => Ending.returned (Value.bool b)) D.out.symm, BE.out⟩
  · have p1 : ((n : Int) = (m : Int)) = False := eq_false (by omega)
    have p2 : ((n : Int) != (m : Int)) = true := by simp; omega
    have D : Hid (decide (a = b) = false) := decide_eq_false fun e => by
      have := HN.out
      subst e; omega
    clear hnm
    go_enter Try.func10, Try.ntmps10
    go_wp2
    go_ret
    exact ⟨congrArg (fun b => Ending.returned (Value.bool b)) D.out.symm, be_refl _⟩
/-- What waits, read at each later world. -/
theorem Ep.pair {w W : World} {g pb : Nat} {lb : Option Nat} {cap : Nat} {now : Int} {ps : List Int} {xs : List (Int × Int)} (h : Ep w W g pb lb cap now ps xs) (i : Nat) (x : Int × Int) (hx : xs[i]? = some x) :
    ∃ b, lb = some b ∧ b < W.heap.size ∧ W.cell? ⟨b, i * 2, none⟩ = some (.int .i64 x.1) ∧ W.cell? ⟨b, i * 2 + 1, none⟩ = some (.int .i64 x.2) := by
  have hl := (List.getElem?_eq_some_iff.1 hx).1
  obtain ⟨f1, f2⟩ := flat_get xs i x hx
  obtain ⟨b, h1, h2, _, h3⟩ := h.own.cell (by omega) _ _ f1
  obtain ⟨b', h1', _, _, h3'⟩ := h.own.cell (by omega) _ _ f2
  rw [h1] at h1'; cases h1'
  exact ⟨b, h1, h2, h3, h3'⟩
theorem take_fst (xs : List (Int × Int)) (i : Nat) (x : Int × Int) (hx : xs[i]? = some x) : intsOf ((xs.take (i + 1)).map (·.1)) = intsOf ((xs.take i).map (·.1)) ++ [.int .i64 x.1] := by
  rw [List.take_add_one, hx, Option.toList_some, List.map_append, ints_append]; rfl
set_option maxHeartbeats 8000000 in
set_option maxRecDepth 100000 in
theorem waiting_calls (w W : World) (g pb : Nat) (lb : Option Nat) (cap : Nat) (now : Int) (ps : List Int) (xs : List (Int × Int)) (h : Ep w W g pb lb cap now ps xs) (hl : xs.length ≤ 1000000) :
    Calls Try.prog 12 #[.pointer (some ⟨g, 0, none⟩)] W fun e W' => ∃ ob oc, e = .returned (sl ob xs.length oc) ∧ Own W' W.heap.size 3 1 ob xs.length oc (intsOf (xs.map (·.1))) ∧ Below W.heap.size W W' := by
  obtain ⟨i0, hi, hz0, hz1, hz2⟩ := info_parts intInfo
  have HP := hide h
  obtain ⟨la, hla⟩ : ∃ la : Option Addr, la = lb.map fun b => ⟨b, 0, none⟩ := ⟨_, rfl⟩
  have c2 : W.cell? ⟨g, 2, none⟩ = some (.slice la xs.length cap) := by rw [hla]; exact h.c.2.2
  have HX := hide (show ∀ (i : Nat) (x : Int × Int), xs[i]? = some x → ∃ b, la = some ⟨b, 0, none⟩ ∧ b < W.heap.size ∧ W.cell? ⟨b, i * 2, none⟩ = some (.int .i64 x.1) ∧ W.cell? ⟨b, i * 2 + 1, none⟩ = some (.int .i64 x.2) from fun i x hx => by
    obtain ⟨b, h1, h2⟩ := Ep.pair h i x hx
    exact ⟨b, by rw [hla, h1]; rfl, h2⟩)
  obtain ⟨n, hn⟩ : ∃ n, n = xs.length := ⟨_, rfl⟩
  rw [← hn] at c2 hl ⊢
  have HN := hide hn
  obtain ⟨S0, hS⟩ : ∃ S0, S0 = W.heap.size := ⟨_, rfl⟩
  have HS := hide hS
  rw [← hS]
  clear h hla hn hS
  go_enter Try.func12, Try.ntmps12
  go_wp2
  go_loopw [3, 11] (fun v3 v11 wr => ∃ i : Nat, ∃ ob oc, i ≤ n ∧ v3 = sl ob i oc ∧ v11 = .int .i64 (i : Int) ∧ Own wr S0 3 1 ob i oc (intsOf ((xs.take i).map (·.1))) ∧ Below S0 W wr) (fun _ v11 _ => n - (intOf v11).toNat)
  case atStart => exact ⟨0, none, 0, Nat.zero_le _, rfl, rfl, Own.nil _ _ _ _, by rw [HS.out]; exact be_refl _⟩
  case round =>
    obtain ⟨i, ob, oc, hi9, rfl, rfl, hO, hB⟩ := hrel
    have O1 := hide hO
    have B1 := hide hB
    by_cases hlt : i < n
    · have p1 : ((i : Int) < (n : Int)) = True := eq_true (by omega)
      have p0 : (0 : Int) ≤ (i : Int) := by omega
      obtain ⟨x, hx⟩ : ∃ x, xs[i]? = some x := ⟨_, List.getElem?_eq_getElem (by have := HN.out; omega)⟩
      obtain ⟨b, rfl, hb, x1, x2⟩ := HX.out i x hx
      have hbl : b < S0 := by rw [HS.out]; exact hb
      have y1 : wr.cell? ⟨b, i * 2, none⟩ = some (.int .i64 x.1) := (hB.cell (p := ⟨b, i * 2, none⟩) hbl).trans x1
      have y2 : wr.cell? ⟨b, i * 2 + 1, none⟩ = some (.int .i64 x.2) := (hB.cell (p := ⟨b, i * 2 + 1, none⟩) hbl).trans x2
      have TF := hide (take_fst xs i x hx)
      clear x1 x2 hB hO hb hbl hx
      have hw : wrap64 ((i : Int) + 1) = (i : Int) + 1 := by unfold wrap64; omega
      go_upto_region 5 with fail
      obtain ⟨x1, x2⟩ := x
      refine wp_letter (fun L => Own L S0 3 1 ob i oc (intsOf ((xs.take i).map (·.1))) ∧ Below S0 W L ∧ S0 ≤ L.heap.size ∧ L.heap[wr.heap.size]? = some (.cells #[.int .i64 x1, .int .i64 x2] 49 (0, 0))) ⟨O1.out.below (be_alloc (be_refl _) (Nat.le_refl _)), be_alloc B1.out (by have := B1.out.size; have := HS.out; omega), by have := B1.out.size; have := HS.out; simp; omega, by (repeat (first | (with_reducible assumption) | (with_reducible apply bs_same) | (with_reducible apply bs_far; case hp => (dsimp only; omega)) | (with_reducible apply bs_drew) | (with_reducible apply bs_drewN) | (with_reducible apply bs_new; (first | (with_reducible rfl) | (simp; done))) | (with_reducible apply bs_alloc) | (with_reducible apply bs_below; (case hb => with_reducible assumption); (case hB => first | omega | (simp; omega) | (simp; done)))))⟩ ?_
      rintro L ⟨hO2, hB2, hSL, hb2⟩
      obtain ⟨z1, z2, zf⟩ := cells2 hb2
      have O2 := hide hO2
      have B2 := hide hB2
      have hA : ∀ o, (L.alloc o).ownsRow S0 3 1 (sl ob i oc) i (intsOf ((xs.take i).map (·.1))) := fun o => (hO2.below (be_alloc (be_refl _) (Nat.le_refl _))).owns
      have HAA := hide hA
      clear hO2 hB2 hA y1 y2 hb2
      go_wp2_with (at_builtin; refine wpList_append_lies _ rfl (.tmp 15) (.tmp 18) 22 rfl S0 3 i0 _ 1 8 Try.underlying22 hi hz0 hz1 hz2 rfl (by omega) (sl ob i oc) i _ rfl (HAA.out _) ⟨L.heap.size, 0, none⟩ 1 1 [.int .i64 x1] rfl rfl (World.news_of_block (cs := #[.int .i64 x1]) (t := 3) (fr := (0, 0)) (heap_alloc_new L _)) (by simp [Value.oneCell']) (by omega) (by unfold maxLen; omega) (by omega) (by simp; omega) (L.heap.size + 1) (by simp) ?_; intro gg cap1 w1 hown1 hgrow hat hlt1)
      rw [sl_block] at hgrow
      refine ⟨⟨i + 1, some gg, cap1, by omega, rfl, by simp, ⟨by rw [TF.out]; exact hown1⟩, ?_⟩, ?_⟩
      · exact below_grown (be_alloc B2.out hSL) (by simp; omega) hgrow (fun b hb => by subst hb; exact (own_base O2.out).1)
      · simp only [intOf]; omega
    · have p1 : ((i : Int) < (n : Int)) = False := eq_false (by omega)
      have hin : i = n := by omega
      subst hin
      have ht : xs.take i = xs := by rw [HN.out, List.take_length]
      rw [ht] at O1
      clear ht hO hB
      go_wp2
      go_ret
      exact ⟨ob, oc, rfl, O1.out, B1.out⟩
end Go.Proofs.Ytnpeklimpdljbaa.EpocRows

