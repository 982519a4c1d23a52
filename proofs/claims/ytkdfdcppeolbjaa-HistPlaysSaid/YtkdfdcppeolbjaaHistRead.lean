/- Histories: what Order and Events do: contracts, for every state. -/
import Derived.Lib.SliceRun
import Derived.Test.YtkdfdcppeolbjaaHistOps
namespace Go.Proofs.Ytkdfdcppeolbjaa.HistRead
open Go Go.RowKit Go.Maps Go.Proofs.YtkdfdcppeolbjaaKit Go.Proofs.Ytkdfdcppeolbjaa.Mem Go.Proofs.Ytkdfdcppeolbjaa.HistBase Go.Proofs.Ytkdfdcppeolbjaa.HistStill Go.Proofs.Ytkdfdcppeolbjaa.HistOps
attribute [local go_sem] cell_alloc_some cell_alloc2_some cell_alloc3_some cell_alloc4_some
set_option linter.unusedVariables false
set_option linter.unusedSimpArgs false
theorem cells12 {W : World} {g : Nat} {t : TypeId} {v0 v1 v2 v3 v4 v5 v6 v7 v8 v9 v10 v11 : Value} (h : W.heap[g]? = some (.cells #[v0, v1, v2, v3, v4, v5, v6, v7, v8, v9, v10, v11] t (0, 0))) : W.cell? ⟨g, 0, none⟩ = some v0 ∧ W.cell? ⟨g, 1, none⟩ = some v1 ∧ W.cell? ⟨g, 2, none⟩ = some v2 ∧ W.cell? ⟨g, 3, none⟩ = some v3 ∧ W.cell? ⟨g, 4, none⟩ = some v4 ∧ W.cell? ⟨g, 5, none⟩ = some v5 ∧ W.cell? ⟨g, 6, none⟩ = some v6 ∧ W.cell? ⟨g, 7, none⟩ = some v7 ∧ W.cell? ⟨g, 8, none⟩ = some v8 ∧ W.cell? ⟨g, 9, none⟩ = some v9 ∧ W.cell? ⟨g, 10, none⟩ = some v10 ∧ W.cell? ⟨g, 11, none⟩ = some v11 ∧ ∀ j, W.frozen? ⟨g, j, none⟩ = false :=
  ⟨(bs_cell h 0).trans rfl, (bs_cell h 1).trans rfl, (bs_cell h 2).trans rfl, (bs_cell h 3).trans rfl, (bs_cell h 4).trans rfl, (bs_cell h 5).trans rfl, (bs_cell h 6).trans rfl, (bs_cell h 7).trans rfl, (bs_cell h 8).trans rfl, (bs_cell h 9).trans rfl, (bs_cell h 10).trans rfl, (bs_cell h 11).trans rfl, bs_frozen h⟩
theorem ev_cells {W : World} {base n cap : Nat} {lb : Option Nat} {evs : List Ev} (h : Own W base 49 12 lb n cap (flatE evs)) {i : Nat} {e : Ev} (he : evs[i]? = some e) : ∃ b, lb = some b ∧ b < W.heap.size ∧ ∀ j, j < 12 → ∀ v, (evC e)[j]? = some v → W.cell? ⟨b, i * 12 + j, none⟩ = some v := by
  obtain ⟨b, h1, h2, _⟩ := h.cell (i * 12 + 0) _ (flatE_get evs i e he 0 (by omega))
  refine ⟨b, h1, h2, fun j hj v hv => ?_⟩
  obtain ⟨b', h1', _, _, h3⟩ := h.cell (i * 12 + j) v ((flatE_get evs i e he j hj).trans hv)
  rw [h1] at h1'; cases h1'
  exact h3
theorem sp_cells {W : World} {base n cap : Nat} {lb : Option Nat} {od : List (Int × Int)} (h : Own W base 28 2 lb n cap (flatS od)) {i : Nat} {s : Int × Int} (he : od[i]? = some s) : ∃ b, lb = some b ∧ b < W.heap.size ∧ W.cell? ⟨b, i * 2, none⟩ = some (.int .i64 s.1) ∧ W.cell? ⟨b, i * 2 + 1, none⟩ = some (.int .i64 s.2) := by
  obtain ⟨b, h1, h2, _, h3⟩ := h.cell (i * 2 + 0) _ (flatS_get od i s he 0 (by omega))
  obtain ⟨b', h1', _, _, h4⟩ := h.cell (i * 2 + 1) _ (flatS_get od i s he 1 (by omega))
  rw [h1] at h1'; cases h1'
  exact ⟨b, h1, h2, h3, h4⟩
theorem flatS_len (l : List (Int × Int)) : (flatS l).length = l.length * 2 := flat_len spC 2 (fun _ => rfl) l
theorem flatE_len (l : List Ev) : (flatE l).length = l.length * 12 := flat_len evC 12 (fun _ => rfl) l
theorem flatS_one' (l : List (Int × Int)) : ∀ u ∈ flatS l, u.oneCell' = true := fun u hu => by
  obtain ⟨x, _, h⟩ := List.mem_flatMap.1 hu
  simp [spC] at h
  rcases h with rfl | rfl <;> rfl
set_option maxHeartbeats 4000000 in
theorem clone_calls (w : World) (oa : Option Addr) (n c : Nat) (cs : List (Int × Int)) (hn : cs.length = n) (hr : Rd w 0 oa (flatS cs)) (hl : n ≤ 1000000000) :
    Calls Try.prog 15 #[.slice oa n c] w fun e w' => ∃ lb cap, e = .returned (sl lb n cap) ∧ Own w' w.heap.size 28 2 lb n cap (flatS cs) ∧ Below w.heap.size w w' := by
  obtain ⟨i0, hi, hz0, hz1, hz2⟩ := info_parts spotInfo
  have heq := fun (w : World) => Lib.run_eql_slice_nil (P := Try.prog) w 31 28 oa n c 0 0 Try.underlying31
  have HR := hide hr
  have HN := hide hn
  obtain ⟨S0, hS⟩ : ∃ S0, S0 = w.heap.size := ⟨_, rfl⟩
  have HS := hide hS
  rw [← hS]
  clear hr hn hS
  cases oa with
  | none =>
    have hc0 : cs = [] := by
      cases cs with
      | nil => rfl
      | cons u us => obtain ⟨a, h, _⟩ := HR.out 0 _ rfl; cases h
    subst hc0
    have hn0 : n = 0 := HN.out.symm
    subst hn0
    go_enter Try.func15, Try.ntmps15
    go_wp2
    go_ret
    exact ⟨none, 0, rfl, Own.nil _ _ _ _, by rw [HS.out]; exact be_refl _⟩
  | some ad =>
    go_enter Try.func15, Try.ntmps15
    go_wp2_with (at_builtin; refine wpList_append_rd _ rfl (.tmp 5) (.tmp 6) 31 rfl S0 28 i0 _ 2 16 Try.underlying31 hi hz0 hz1 hz2 rfl (by omega) (some w.heap.size) 0 0 [] rfl (Own.lit (bs_new rfl) (by simp) (by rw [HS.out]; exact Nat.le_refl _) (by unfold maxLen; omega)) (some ad) n c (flatS cs) rfl (by rw [flatS_len, HN.out]) (HR.out.below (be_alloc (be_refl _) (Nat.le_refl _))) (flatS_one' cs) (by unfold maxLen; omega) (by omega) (by rw [HS.out]; simp) ?_; intro lb1 cap1 w1 hO hg hat; have O1 := hide hO; have G1 := hide hg; clear hO hg hat)
    go_ret
    refine ⟨lb1, cap1, rfl, by have := O1.out; rwa [Nat.zero_add, List.nil_append] at this, ?_⟩
    rw [HS.out]
    exact below_grown (be_alloc (be_refl _) (Nat.le_refl _)) (by simp) G1.out (fun b e => by cases e; exact Nat.le_refl _)
theorem bs_keep {w : World} {g : Nat} {cs : Array Value} {t : TypeId} (i : Nat) {v : Value} (hv : cs[i]? = some v) (h : w.heap[g]? = some (.cells cs t (0, 0))) : (w.setCell ⟨g, i, none⟩ v).heap[g]? = some (.cells cs t (0, 0)) := by
  have h1 := bs_same (i := i) (v := v) h
  have h2 : cs.setIfInBounds i v = cs := by
    apply Array.ext_getElem?
    intro k
    by_cases hk : i = k
    · subst hk
      have hl := (Array.getElem?_eq_some_iff.1 hv).1
      rw [Array.getElem?_setIfInBounds_self_of_lt hl, hv]
    · rw [Array.getElem?_setIfInBounds_ne hk]
  rw [h2] at h1
  exact h1
/-- Worlds that differ in one block alone. -/
structure Turn (E : Nat) (W W' : World) : Prop where
  block : ∀ k, k ≠ E → W'.heap[k]? = W.heap[k]?
  size : W'.heap.size = W.heap.size
  os : W'.os = W.os
  tape : W'.tape = W.tape
  output : W'.output = W.output
theorem Turn.refl (E : Nat) (W : World) : Turn E W W := ⟨fun _ _ => rfl, rfl, rfl, rfl, rfl⟩
theorem Turn.set {E : Nat} {W W' : World} (h : Turn E W W') (i : Nat) (v : Value) : Turn E W (W'.setCell ⟨E, i, none⟩ v) :=
  have hb : Below E W' (W'.setCell ⟨E, i, none⟩ v) := be_set (Below.refl _ _) (Nat.le_refl _)
  ⟨fun k hk => (Below.heap_setCell W' _ _ k hk).trans (h.block k hk), (World.size_setCell W' _ _).trans h.size, hb.os.trans h.os, hb.tape.trans h.tape, hb.output.trans h.output⟩
theorem Turn.below {E B : Nat} {W0 W W' : World} (h : Turn E W W') (hb : Below B W0 W) (hE : B ≤ E) : Below B W0 W' :=
  ⟨h.os.trans hb.os, h.tape.trans hb.tape, h.output.trans hb.output, by rw [h.size]; exact hb.size, fun k hk => (h.block k (by omega)).trans (hb.block k hk)⟩
section
variable (w W : World) (g : Nat) (lb : Option Nat) (cap : Nat) (ob : Option Nat) (oc B m : Nat) (evs : List Ev) (od : List (Int × Int)) (D : Dw)
theorem order_calls (h : Hi w W g lb cap ob oc B m evs od D) (hl : od.length ≤ 1000000) :
    Calls Try.prog 8 #[.pointer (some ⟨g, 0, none⟩)] W fun e W' => ∃ lb' cap', e = .returned (sl lb' od.length cap') ∧ Own W' W.heap.size 28 2 lb' od.length cap' (flatS od) ∧ Below W.heap.size W W' := by
  obtain ⟨_, c1, _⟩ := h.c
  have HC := hide (clone_calls W (ob.map fun b => ⟨b, 0, none⟩) od.length oc od rfl ((Rd.of h.ord).lower (Nat.zero_le _)) (by omega))
  clear h
  unfold sl at c1
  generalize (ob.map fun b => (⟨b, 0, none⟩ : Addr)) = oa at *
  go_enter Try.func8, Try.ntmps8
  go_wp2_with (go_at_call 15; (with_reducible refine (HC.out).mono ?_); rintro e W2 ⟨lb', cap', rfl, ho, hb⟩; have HO := hide ho; have HB := hide hb; clear ho hb)
  go_ret
  exact ⟨lb', cap', rfl, HO.out, HB.out⟩
set_option maxHeartbeats 16000000 in
set_option maxRecDepth 100000 in
theorem events_calls (h : Hi w W g lb cap ob oc B m evs od D) (hl : evs.length ≤ 1000000) :
    Calls Try.prog 9 #[.pointer (some ⟨g, 0, none⟩)] W fun e W' => ∃ lb' cap', e = .returned (sl lb' evs.length cap') ∧ Own W' W.heap.size 49 12 lb' evs.length cap' (flatE evs) ∧ Below W.heap.size W W' := by
  obtain ⟨i0, hi, hz0, hz1, hz2⟩ := info_parts eventInfo
  obtain ⟨c0, _, _⟩ := h.c
  have HR := hide h.ev
  obtain ⟨oa, hoa⟩ : ∃ oa : Option Addr, oa = lb.map fun b => ⟨b, 0, none⟩ := ⟨_, rfl⟩
  rw [show sl lb evs.length cap = .slice oa evs.length cap by rw [hoa]; rfl] at c0
  have HOA := hide hoa
  obtain ⟨k, hk⟩ : ∃ k, evs.length = k := ⟨_, rfl⟩
  rw [hk] at c0 hl ⊢
  have HK := hide hk
  obtain ⟨S0, hS⟩ : ∃ S0, S0 = W.heap.size := ⟨_, rfl⟩
  have HS := hide hS
  rw [← hS]
  clear h hk hS hoa
  go_enter Try.func9, Try.ntmps9
  go_wp2
  go_loopw [3, 11] (fun v3 v11 wr => ∃ i : Nat, ∃ ob oc, i ≤ k ∧ v3 = sl ob i oc ∧ v11 = .int .i64 (i : Int) ∧ Own wr S0 49 12 ob i oc (flatE (evs.take i)) ∧ Below S0 W wr) (fun _ v11 _ => k - (intOf v11).toNat)
  case atStart => exact ⟨0, none, 0, Nat.zero_le _, rfl, rfl, Own.nil _ _ _ _, by rw [HS.out]; exact be_refl _⟩
  case round =>
    obtain ⟨i, ob, oc, hi9, rfl, rfl, hO, hB⟩ := hrel
    have O1 := hide hO
    have B1 := hide hB
    by_cases hlt : i < k
    · have p1 : ((i : Int) < (k : Int)) = True := eq_true (by omega)
      have p1' : (i : Int) < (k : Int) := by omega
      have p0 : (0 : Int) ≤ (i : Int) := by omega
      obtain ⟨e, he⟩ : ∃ e, evs[i]? = some e := ⟨_, List.getElem?_eq_getElem (by have := HK.out; omega)⟩
      have hBW : Below W.heap.size W wr := by rw [← HS.out]; exact hB
      obtain ⟨b, hb, hbl, hc⟩ := ev_cells HR.out he
      have e1 : oa = some ⟨b, 0, none⟩ := by rw [HOA.out, hb]; rfl
      subst e1
      have TK := hide (show flatE (evs.take (i + 1)) = flatE (evs.take i) ++ evC e by rw [List.take_add_one, he, Option.toList_some, flatE_append, flatE_one])
      obtain ⟨t, n, kd, win⟩ := e
      have s0 : wr.cell? ⟨b, i * 12, none⟩ = some (.int .i64 t) := (hBW.cell (p := ⟨b, i * 12 + 0, none⟩) hbl).trans (hc 0 (by omega) _ rfl)
      have s1 : wr.cell? ⟨b, i * 12 + 1, none⟩ = some (.int .i64 n) := (hBW.cell (p := ⟨b, i * 12 + 1, none⟩) hbl).trans (hc 1 (by omega) _ rfl)
      have s2 : wr.cell? ⟨b, i * 12 + 2, none⟩ = some (.int .i64 kd) := (hBW.cell (p := ⟨b, i * 12 + 2, none⟩) hbl).trans (hc 2 (by omega) _ rfl)
      have s3 : wr.cell? ⟨b, i * 12 + 3, none⟩ = some (.int .i64 0) := (hBW.cell (p := ⟨b, i * 12 + 3, none⟩) hbl).trans (hc 3 (by omega) _ rfl)
      have s4 : wr.cell? ⟨b, i * 12 + 4, none⟩ = some (.int .i64 win) := (hBW.cell (p := ⟨b, i * 12 + 4, none⟩) hbl).trans (hc 4 (by omega) _ rfl)
      have s5 : wr.cell? ⟨b, i * 12 + 5, none⟩ = some (.int .i64 0) := (hBW.cell (p := ⟨b, i * 12 + 5, none⟩) hbl).trans (hc 5 (by omega) _ rfl)
      have s6 : wr.cell? ⟨b, i * 12 + 6, none⟩ = some (.int .i64 0) := (hBW.cell (p := ⟨b, i * 12 + 6, none⟩) hbl).trans (hc 6 (by omega) _ rfl)
      have s7 : wr.cell? ⟨b, i * 12 + 7, none⟩ = some (.int .i64 0) := (hBW.cell (p := ⟨b, i * 12 + 7, none⟩) hbl).trans (hc 7 (by omega) _ rfl)
      have s8 : wr.cell? ⟨b, i * 12 + 8, none⟩ = some (.slice none 0 0) := (hBW.cell (p := ⟨b, i * 12 + 8, none⟩) hbl).trans (hc 8 (by omega) _ rfl)
      have s9 : wr.cell? ⟨b, i * 12 + 9, none⟩ = some (.int .i64 0) := (hBW.cell (p := ⟨b, i * 12 + 9, none⟩) hbl).trans (hc 9 (by omega) _ rfl)
      have s10 : wr.cell? ⟨b, i * 12 + 10, none⟩ = some (.int .i64 0) := (hBW.cell (p := ⟨b, i * 12 + 10, none⟩) hbl).trans (hc 10 (by omega) _ rfl)
      have s11 : wr.cell? ⟨b, i * 12 + 11, none⟩ = some (.bool false) := (hBW.cell (p := ⟨b, i * 12 + 11, none⟩) hbl).trans (hc 11 (by omega) _ rfl)
      have hw : wrap64 ((i : Int) + 1) = (i : Int) + 1 := by unfold wrap64; omega
      clear hc hB hO he hBW c0 hb hbl
      go_upto_region 5 with fail
      refine wp_letter (fun M => Own M S0 49 12 ob i oc (flatE (evs.take i)) ∧ Below S0 W M ∧ S0 ≤ M.heap.size ∧ M.heap[wr.heap.size]? = some (.cells #[.int .i64 t, .int .i64 n, .int .i64 kd, .int .i64 0, .int .i64 win, .int .i64 0, .int .i64 0, .int .i64 0, .slice none 0 0, .int .i64 0, .int .i64 0, .bool false] 49 (0, 0))) ⟨O1.out.below (be_alloc (be_refl _) (Nat.le_refl _)), be_alloc B1.out (by have := B1.out.size; have := HS.out; omega), by have := B1.out.size; have := HS.out; simp; omega, bs_new rfl⟩ ?_
      rintro M ⟨hO2, hB2, hSL, hb2⟩
      have HOB := hide (show ∀ b, ob = some b → b < wr.heap.size from fun b e => (own_ge O1.out b e).2)
      have HSE := hide (show S0 ≤ wr.heap.size by have := B1.out.size; rw [← HS.out] at this; exact this)
      generalize wr.heap.size = E at *
      obtain ⟨z0, z1, z2, z3, z4, z5, z6, z7, z8, z9, z10, z11, zf⟩ := cells12 hb2
      have O2 := hide hO2
      have B2 := hide hB2
      have SL := hide hSL
      have HE := hide hb2
      clear hO2 hB2 hSL hb2 s0 s1 s2 s3 s4 s5 s6 s7 s8 s9 s10 s11
      go_upto_region 6 with (go_at_call 16; refine (still_calls win M).mono ?_; rintro e M2 ⟨rfl, hb⟩; have HB2 := hide hb; obtain ⟨z0, z1, z2, z3, z4, z5, z6, z7, z8, z9, z10, z11, zf⟩ := cells12 (bs_below hb (bs_lt HE.out) HE.out); clear hb)
      refine wp_letter (fun N => Own N S0 49 12 ob i oc (flatE (evs.take i)) ∧ Below S0 W N ∧ S0 ≤ N.heap.size ∧ N.heap[E]? = some (.cells #[.int .i64 t, .int .i64 n, .int .i64 kd, .int .i64 0, .int .i64 win, .int .i64 0, .int .i64 0, .int .i64 0, .slice none 0 0, .int .i64 0, .int .i64 0, .bool false] 49 (0, 0))) ?hlet ?_
      case hlet =>
        have hb2 := HB2.out
        have hE := HE.out
        have hEl := bs_lt HE.out
        have hO := O2.out.below hb2
        have hbe := be_call hb2 SL.out B2.out
        have hSE := HSE.out
        have hT : Turn E M2 M2 := Turn.refl _ _
        have hE2 := bs_below hb2 hEl hE
        have hT2 := (((((((((hT.set 3 (.int .i64 0)).set 4 (.int .i64 win)).set 5 (.int .i64 0)).set 6 (.int .i64 0)).set 7 (.int .i64 0)).set 8 (.slice none 0 0)).set 9 (.int .i64 0)).set 10 (.int .i64 0)).set 11 (.bool false))
        refine ⟨?_, ?_, ?_, ?_⟩
        · exact hO.keep fun b e _ => hT2.block b (by have := HOB.out b e; omega)
        · exact hT2.below hbe hSE
        · have := SL.out
          have := hb2.size
          have := hT2.size
          omega
        · exact bs_keep 11 rfl (bs_keep 10 rfl (bs_keep 9 rfl (bs_keep 8 rfl (bs_keep 7 rfl (bs_keep 6 rfl (bs_keep 5 rfl (bs_keep 4 rfl (bs_keep 3 rfl hE2))))))))
      rintro N ⟨hO3, hB3, hSN, hb3⟩
      clear z0 z1 z2 z3 z4 z5 z6 z7 z8 z9 z10 z11 zf
      obtain ⟨z0, z1, z2, z3, z4, z5, z6, z7, z8, z9, z10, z11, zf⟩ := cells12 hb3
      have O3 := hide hO3
      have B3 := hide hB3
      have HAA : Hid (∀ o, (N.alloc o).ownsRow S0 49 12 (sl ob i oc) i (flatE (evs.take i))) := fun o => (hO3.below (be_alloc (be_refl _) (Nat.le_refl _))).owns
      clear hO3 hB3 hb3
      go_wp2_with (at_builtin; refine wpList_append_lies _ rfl (.tmp 19) (.tmp 21) 33 rfl S0 49 i0 _ 12 112 Try.underlying33 hi hz0 hz1 hz2 rfl (by omega) (sl ob i oc) i _ rfl (HAA.out _) ⟨N.heap.size, 0, none⟩ 1 1 (evC (t, n, kd, win)) rfl rfl (World.news_of_block (cs := (evC (t, n, kd, win)).toArray) (t := 49) (fr := (0, 0)) (heap_alloc_new N _)) (by simp [evC, Value.oneCell']) (by omega) (by unfold maxLen; omega) (by omega) (by simp; omega) (N.heap.size + 1) (by simp) ?_; intro gg cap1 w1 hown1 hgrow hat hlt1)
      rw [sl_block] at hgrow
      refine ⟨⟨i + 1, some gg, cap1, by omega, rfl, by simp, ⟨by rw [TK.out]; exact hown1⟩, ?_⟩, ?_⟩
      · exact below_grown (be_alloc B3.out hSN) (by simp; omega) hgrow (fun b hb => by subst hb; exact (own_base O3.out).1)
      · simp only [intOf]; omega
    · have p1 : ((i : Int) < (k : Int)) = False := eq_false (by omega)
      have hin : i = k := by omega
      subst hin
      have ht : evs.take i = evs := by rw [← HK.out, List.take_length]
      rw [ht] at O1
      clear ht hO hB
      go_wp2
      go_ret
      exact ⟨ob, oc, rfl, O1.out, B1.out⟩
end
end Go.Proofs.Ytkdfdcppeolbjaa.HistRead


