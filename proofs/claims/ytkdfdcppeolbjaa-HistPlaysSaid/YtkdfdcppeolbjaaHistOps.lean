/- Histories: what New, Call and Reply do: contracts, for every state. -/
import Derived.Test.YtkdfdcppeolbjaaHistStill
import Derived.Deep.AppendLies
namespace Go.Proofs.Ytkdfdcppeolbjaa.HistOps
open Go Go.RowKit Go.Maps Go.Proofs.YtkdfdcppeolbjaaKit Go.Proofs.Ytkdfdcppeolbjaa.Mem Go.Proofs.Ytkdfdcppeolbjaa.HistBase Go.Proofs.Ytkdfdcppeolbjaa.HistStill Go.Proofs.Ytkdfdcppeolbjaa.Split
attribute [local go_sem] cell_alloc_some cell_alloc2_some cell_alloc3_some cell_alloc4_some
set_option linter.unusedVariables false
set_option linter.unusedSimpArgs false
theorem eventInfo : (Try.prog.info? 49).map (fun i => (i.zero, i.size, i.bytes)) = some (some (.agg #[.int .i64 0, .int .i64 0, .int .i64 0, .int .i64 0, .int .i64 0, .int .i64 0, .int .i64 0, .int .i64 0, .slice none 0 0, .int .i64 0, .int .i64 0, .bool false]), 12, 112) := by kernel_rfl
theorem spotInfo : (Try.prog.info? 28).map (fun i => (i.zero, i.size, i.bytes)) = some (some (.agg #[.int .i64 0, .int .i64 0]), 2, 16) := by kernel_rfl
theorem info_parts {P : Program} {t : TypeId} {z : Value} {s b : Nat} (h : (P.info? t).map (fun i => (i.zero, i.size, i.bytes)) = some (some z, s, b)) : ∃ i, P.info? t = some i ∧ i.zero = some z ∧ i.size = s ∧ i.bytes = b := by
  obtain ⟨i, hi, e⟩ := Option.map_eq_some_iff.1 h
  simp only [Prod.mk.injEq] at e
  exact ⟨i, hi, e.1, e.2.1, e.2.2⟩
theorem new_calls (w : World) : Calls Try.prog 6 #[] w fun e W' => ∃ g B, e = .returned (.pointer (some ⟨g, 0, none⟩)) ∧ Hi w W' g none 0 none 0 B 0 [] [] (.map []) := by
  have hmm := @run_makeMap Try.prog
  go_enter Try.func6, Try.ntmps6
  go_wp2
  go_ret
  refine ⟨w.heap.size + 1, w.heap.size, rfl, bs_new (by simp), Own.nil _ _ _ _, Own.nil _ _ _ _, ?_, by omega, Nat.le_refl _, be_alloc (be_alloc (be_refl _) (Nat.le_refl _)) (by simp), Ix.nil, Nat.zero_le _⟩
  exact World.ownsMap.alloc (World.ownsMap_made _ _ _ _) _
set_option maxHeartbeats 8000000 in
set_option maxRecDepth 100000 in
theorem call_calls (t n : Int) (w W : World) (g : Nat) (lb : Option Nat) (cap : Nat) (ob : Option Nat) (oc B m : Nat) (evs : List Ev) (od : List (Int × Int)) (D : Dw) (h : Hi w W g lb cap ob oc B m evs od D) (hl : evs.length ≤ 1000000) :
    Calls Try.prog 11 #[.pointer (some ⟨g, 0, none⟩), .int .i64 t, .int .i64 n] W fun e W' => e = .returned (.tuple #[]) ∧ ∃ lb' cap', Hi w W' g lb' cap' ob oc B m (evs ++ [(t, n, 1, 0)]) od D ∧ Fh g B W lb ob W' lb' ob := by
  obtain ⟨i0, hi, hz0, hz1, hz2⟩ := info_parts eventInfo
  have HP := hide h
  obtain ⟨c0, _, _⟩ := h.c
  have hgs := bs_lt h.obj
  have hne : some g ≠ lb := fun e => by
    have := own_ge h.ev g e.symm
    omega
  obtain ⟨k, hk⟩ : ∃ k, evs.length = k := ⟨_, rfl⟩
  have hown := h.ev.owns
  rw [hk] at hown c0 hl
  obtain ⟨v, hv⟩ : ∃ v, v = sl lb k cap := ⟨_, rfl⟩
  have hvb : v.ownBlock = lb := by rw [hv]; exact sl_block _ _ _
  rw [← hv] at hown c0
  rw [← hvb] at hne
  have HN := hide hk
  have HVB := hide hvb
  have HA : Hid (∀ o, (W.alloc o).ownsRow (g + 1) 49 12 v k (flatE evs)) := fun o => World.ownsRow.alloc hown o
  have HC : Hid (∀ o, (W.alloc o).cell? ⟨g, 0, none⟩ = some v ∧ (W.alloc o).frozen? ⟨g, 0, none⟩ = false) := fun o => ⟨by rw [World.cell?_alloc_lt _ _ _ hgs]; exact c0, bs_frozen (bs_alloc HP.out.obj) 0⟩
  clear h hv hvb hown hk
  go_enter Try.func11, Try.ntmps11
  go_wp2_with (at_builtin; refine wpList_append_lies _ rfl (.tmp 10) (.tmp 14) 33 rfl (g + 1) 49 i0 _ 12 112 Try.underlying33 hi hz0 hz1 hz2 rfl (by omega) v k _ rfl (HA.out _) ⟨W.heap.size, 0, none⟩ 1 1 (evC (t, n, 1, 0)) rfl rfl (World.news_of_block (cs := (evC (t, n, 1, 0)).toArray) (t := 49) (fr := (0, 0)) (heap_alloc_new W _)) (by simp [evC, Value.oneCell']) (by omega) (by unfold maxLen; omega) (by omega) (by simp; omega) (W.heap.size + 1) (by simp) ?_; intro gg cap1 w1 hown1 hgrow hat hlt1; have fz1 : w1.frozen? ⟨g, 0, none⟩ = false := (hgrow.frozen_far _ (by simp; omega) hne).trans (HC.out _).2; have cz1 : w1.cell? ⟨g, 0, none⟩ = some v := (hgrow.cell_far _ (by simp; omega) hne).trans (HC.out _).1)
  go_end0
  rw [HVB.out] at hgrow hat
  exact ⟨rfl, some gg, cap1, HP.out.push (be_alloc (be_refl _) (Nat.le_refl _)) hgrow hown1 HN.out, Fh.push (be_alloc (be_refl _) (Nat.le_refl _)) hgrow (hat.imp id (fun e => by omega)) 0 _⟩
/-- What stays but for a row that is appended to. -/
def Kp (W : World) (lb : Option Nat) (w2 : World) : Prop := (∀ k, k < W.heap.size → some k ≠ lb → w2.heap[k]? = W.heap[k]?) ∧ W.heap.size ≤ w2.heap.size
theorem Kp.of_below {W w2 : World} {lb : Option Nat} (h : Below W.heap.size W w2) : Kp W lb w2 := ⟨fun k hk _ => h.block k hk, h.size⟩
theorem Kp.grown {W w1 w2 : World} {lb : Option Nat} (h : Kp W lb w1) (hg : w1.grownBy w2 lb) : Kp W lb w2 := ⟨fun k hk hn => (hg.block k (Nat.lt_of_lt_of_le hk h.2) hn).trans (h.1 k hk hn), Nat.le_trans h.2 hg.size⟩
theorem Kp.cell {W w2 : World} {lb : Option Nat} (h : Kp W lb w2) {p : Addr} (hp : p.block < W.heap.size) (hn : some p.block ≠ lb) : w2.cell? p = W.cell? p := World.cell?_of_block (h.1 p.block hp hn)
theorem Kp.frozen {W w2 : World} {lb : Option Nat} (h : Kp W lb w2) {p : Addr} (hp : p.block < W.heap.size) (hn : some p.block ≠ lb) : w2.frozen? p = W.frozen? p := World.frozen?_of_block (h.1 p.block hp hn)
set_option maxHeartbeats 8000000 in
set_option maxRecDepth 100000 in
theorem reply_calls (t n win : Int) (w W : World) (g : Nat) (lb : Option Nat) (cap : Nat) (ob : Option Nat) (oc B m : Nat) (evs : List Ev) (od : List (Int × Int)) (D : Dw) (h : Hi w W g lb cap ob oc B m evs od D) (hl : evs.length ≤ 1000000) :
    Calls Try.prog 12 #[.pointer (some ⟨g, 0, none⟩), .int .i64 t, .int .i64 n, rep win] W fun e W' => e = .returned (.tuple #[]) ∧ ∃ lb' cap', Hi w W' g lb' cap' ob oc B m (evs ++ [(t, n, 2, win)]) od D ∧ Fh g B W lb ob W' lb' ob := by
  obtain ⟨i0, hi, hz0, hz1, hz2⟩ := info_parts eventInfo
  dsimp only [rep]
  have H0 := hide h
  clear h
  go_enter Try.func12, Try.ntmps12
  go_upto_region 1 with fail
  obtain ⟨A, hA⟩ : ∃ A, A = W.heap.size := ⟨_, rfl⟩
  refine wp_letter (fun M => (Hi w M g lb cap ob oc B m evs od D ∧ Below W.heap.size W M) ∧ M.heap[W.heap.size]? = some (.cells #[.int .i64 0, .int .i64 win, .int .i64 0, .int .i64 0, .int .i64 0, .slice none 0 0, .int .i64 0, .int .i64 0, .bool false] 45 (0, 0))) ⟨⟨H0.out.then_ (be_alloc (be_refl _) (Nat.le_refl _)), be_alloc (be_refl _) (Nat.le_refl _)⟩, bs_new rfl⟩ ?_
  rintro M ⟨⟨h, hWM⟩, hbx⟩
  have HWM := hide hWM
  clear hWM
  rw [← hA] at hbx ⊢
  have hAl : ∀ b, lb = some b → b < A := fun b e => by rw [hA]; exact (own_ge H0.out.ev b e).2
  have hneA : some A ≠ lb := fun e => by have := hAl A e.symm; omega
  have hAM := bs_lt hbx
  clear H0 hA hAl
  have HP := hide h
  obtain ⟨c0, _, _⟩ := h.c
  have hgs := bs_lt h.obj
  have hne : some g ≠ lb := fun e => by
    have := own_ge h.ev g e.symm
    omega
  obtain ⟨k, hk⟩ : ∃ k, evs.length = k := ⟨_, rfl⟩
  have hown := h.ev.owns
  rw [hk] at hown c0 hl
  obtain ⟨v, hv⟩ : ∃ v, v = sl lb k cap := ⟨_, rfl⟩
  have hvb : v.ownBlock = lb := by rw [hv]; exact sl_block _ _ _
  rw [← hv] at hown c0
  have HN := hide hk
  have HVB := hide hvb
  have HFB := hide (show ∀ b, lb = some b → b < M.heap.size from fun b e => (own_ge h.ev b e).2)
  have HA : Hid (∀ W', Below M.heap.size M W' → W'.ownsRow (g + 1) 49 12 v k (flatE evs)) := fun W' hb => by
    have := (h.ev.below hb).owns
    rw [hk, ← hv] at this
    exact this
  obtain ⟨d0, d1, d2, d3, d4, d5, d6, d7, d8, _⟩ := cells10 hbx
  have fz := bs_frozen h.obj 0
  clear h hv hvb hown hk hbx
  refine wp_region_split_ex (n := 12) (ex := 0) (vx := .pointer (some ⟨g, 0, none⟩)) (by kernel_rfl) (by kernel_rfl) (by omega) rfl (by kernel_rfl) (by kernel_rfl) (by kernel_rfl) (fun _ _ _ h => h) (Or.inl ⟨by rfl, fun w5 => by go_simp⟩) ?_
  simp only [List.take_succ_cons, List.take_zero, List.drop_succ_cons, List.drop_zero, Act.put, List.setIfInBounds_toArray, List.set_cons_zero, List.set_cons_succ]
  refine wpAny_of_held (S := Kp M lb) _ _ _ _ ?_
  refine letter_ (fun w3 => Below M.heap.size M w3) (be_drew (be_refl _)) ?_
  intro w0 hb0
  have JC0 := hide (Kp.of_below (lb := lb) hb0)
  have HB0 := hide hb0
  clear hb0
  refine take_ (i := 1) (v := ?_) rfl (by kernel_rfl) (by kernel_rfl) (by kernel_rfl) (fun _ _ _ h => h) (Or.inl ⟨by rfl, ?_⟩) JC0.out ?_
  rotate_left
  · (intro w5 hSw; have k0 := (hSw.cell (p := ⟨g, 0, none⟩) hgs hne).trans c0; have e0 := (hSw.cell (p := ⟨A, 0, none⟩) hAM hneA).trans d0; have e1 := (hSw.cell (p := ⟨A, 1, none⟩) hAM hneA).trans d1; have e2 := (hSw.cell (p := ⟨A, 2, none⟩) hAM hneA).trans d2; have e3 := (hSw.cell (p := ⟨A, 3, none⟩) hAM hneA).trans d3; have e4 := (hSw.cell (p := ⟨A, 4, none⟩) hAM hneA).trans d4; have e5 := (hSw.cell (p := ⟨A, 5, none⟩) hAM hneA).trans d5; have e6 := (hSw.cell (p := ⟨A, 6, none⟩) hAM hneA).trans d6; have e7 := (hSw.cell (p := ⟨A, 7, none⟩) hAM hneA).trans d7; have e8 := (hSw.cell (p := ⟨A, 8, none⟩) hAM hneA).trans d8; go_simp; try (with_reducible rfl))
  try simp only [Act.put, List.setIfInBounds_toArray, List.set_cons_zero, List.set_cons_succ]
  refine take_ (i := 2) (v := ?_) rfl (by kernel_rfl) (by kernel_rfl) (by kernel_rfl) (fun _ _ _ h => h) (Or.inl ⟨by rfl, ?_⟩) JC0.out ?_
  rotate_left
  · (intro w5 hSw; have k0 := (hSw.cell (p := ⟨g, 0, none⟩) hgs hne).trans c0; have e0 := (hSw.cell (p := ⟨A, 0, none⟩) hAM hneA).trans d0; have e1 := (hSw.cell (p := ⟨A, 1, none⟩) hAM hneA).trans d1; have e2 := (hSw.cell (p := ⟨A, 2, none⟩) hAM hneA).trans d2; have e3 := (hSw.cell (p := ⟨A, 3, none⟩) hAM hneA).trans d3; have e4 := (hSw.cell (p := ⟨A, 4, none⟩) hAM hneA).trans d4; have e5 := (hSw.cell (p := ⟨A, 5, none⟩) hAM hneA).trans d5; have e6 := (hSw.cell (p := ⟨A, 6, none⟩) hAM hneA).trans d6; have e7 := (hSw.cell (p := ⟨A, 7, none⟩) hAM hneA).trans d7; have e8 := (hSw.cell (p := ⟨A, 8, none⟩) hAM hneA).trans d8; go_simp; try (with_reducible rfl))
  try simp only [Act.put, List.setIfInBounds_toArray, List.set_cons_zero, List.set_cons_succ]
  refine take_ (i := 3) (v := ?_) rfl (by kernel_rfl) (by kernel_rfl) (by kernel_rfl) (fun _ _ _ h => h) (Or.inl ⟨by rfl, ?_⟩) JC0.out ?_
  rotate_left
  · (intro w5 hSw; have k0 := (hSw.cell (p := ⟨g, 0, none⟩) hgs hne).trans c0; have e0 := (hSw.cell (p := ⟨A, 0, none⟩) hAM hneA).trans d0; have e1 := (hSw.cell (p := ⟨A, 1, none⟩) hAM hneA).trans d1; have e2 := (hSw.cell (p := ⟨A, 2, none⟩) hAM hneA).trans d2; have e3 := (hSw.cell (p := ⟨A, 3, none⟩) hAM hneA).trans d3; have e4 := (hSw.cell (p := ⟨A, 4, none⟩) hAM hneA).trans d4; have e5 := (hSw.cell (p := ⟨A, 5, none⟩) hAM hneA).trans d5; have e6 := (hSw.cell (p := ⟨A, 6, none⟩) hAM hneA).trans d6; have e7 := (hSw.cell (p := ⟨A, 7, none⟩) hAM hneA).trans d7; have e8 := (hSw.cell (p := ⟨A, 8, none⟩) hAM hneA).trans d8; go_simp; try (with_reducible rfl))
  try simp only [Act.put, List.setIfInBounds_toArray, List.set_cons_zero, List.set_cons_succ]
  refine take_ (i := 4) (v := ?_) rfl (by kernel_rfl) (by kernel_rfl) (by kernel_rfl) (fun _ _ _ h => h) (Or.inl ⟨by rfl, ?_⟩) JC0.out ?_
  rotate_left
  · (intro w5 hSw; have k0 := (hSw.cell (p := ⟨g, 0, none⟩) hgs hne).trans c0; have e0 := (hSw.cell (p := ⟨A, 0, none⟩) hAM hneA).trans d0; have e1 := (hSw.cell (p := ⟨A, 1, none⟩) hAM hneA).trans d1; have e2 := (hSw.cell (p := ⟨A, 2, none⟩) hAM hneA).trans d2; have e3 := (hSw.cell (p := ⟨A, 3, none⟩) hAM hneA).trans d3; have e4 := (hSw.cell (p := ⟨A, 4, none⟩) hAM hneA).trans d4; have e5 := (hSw.cell (p := ⟨A, 5, none⟩) hAM hneA).trans d5; have e6 := (hSw.cell (p := ⟨A, 6, none⟩) hAM hneA).trans d6; have e7 := (hSw.cell (p := ⟨A, 7, none⟩) hAM hneA).trans d7; have e8 := (hSw.cell (p := ⟨A, 8, none⟩) hAM hneA).trans d8; go_simp; try (with_reducible rfl))
  try simp only [Act.put, List.setIfInBounds_toArray, List.set_cons_zero, List.set_cons_succ]
  refine take_ (i := 5) (v := ?_) rfl (by kernel_rfl) (by kernel_rfl) (by kernel_rfl) (fun _ _ _ h => h) (Or.inl ⟨by rfl, ?_⟩) JC0.out ?_
  rotate_left
  · (intro w5 hSw; have k0 := (hSw.cell (p := ⟨g, 0, none⟩) hgs hne).trans c0; have e0 := (hSw.cell (p := ⟨A, 0, none⟩) hAM hneA).trans d0; have e1 := (hSw.cell (p := ⟨A, 1, none⟩) hAM hneA).trans d1; have e2 := (hSw.cell (p := ⟨A, 2, none⟩) hAM hneA).trans d2; have e3 := (hSw.cell (p := ⟨A, 3, none⟩) hAM hneA).trans d3; have e4 := (hSw.cell (p := ⟨A, 4, none⟩) hAM hneA).trans d4; have e5 := (hSw.cell (p := ⟨A, 5, none⟩) hAM hneA).trans d5; have e6 := (hSw.cell (p := ⟨A, 6, none⟩) hAM hneA).trans d6; have e7 := (hSw.cell (p := ⟨A, 7, none⟩) hAM hneA).trans d7; have e8 := (hSw.cell (p := ⟨A, 8, none⟩) hAM hneA).trans d8; go_simp; try (with_reducible rfl))
  try simp only [Act.put, List.setIfInBounds_toArray, List.set_cons_zero, List.set_cons_succ]
  refine take_ (i := 6) (v := ?_) rfl (by kernel_rfl) (by kernel_rfl) (by kernel_rfl) (fun _ _ _ h => h) (Or.inl ⟨by rfl, ?_⟩) JC0.out ?_
  rotate_left
  · (intro w5 hSw; have k0 := (hSw.cell (p := ⟨g, 0, none⟩) hgs hne).trans c0; have e0 := (hSw.cell (p := ⟨A, 0, none⟩) hAM hneA).trans d0; have e1 := (hSw.cell (p := ⟨A, 1, none⟩) hAM hneA).trans d1; have e2 := (hSw.cell (p := ⟨A, 2, none⟩) hAM hneA).trans d2; have e3 := (hSw.cell (p := ⟨A, 3, none⟩) hAM hneA).trans d3; have e4 := (hSw.cell (p := ⟨A, 4, none⟩) hAM hneA).trans d4; have e5 := (hSw.cell (p := ⟨A, 5, none⟩) hAM hneA).trans d5; have e6 := (hSw.cell (p := ⟨A, 6, none⟩) hAM hneA).trans d6; have e7 := (hSw.cell (p := ⟨A, 7, none⟩) hAM hneA).trans d7; have e8 := (hSw.cell (p := ⟨A, 8, none⟩) hAM hneA).trans d8; go_simp; try (with_reducible rfl))
  try simp only [Act.put, List.setIfInBounds_toArray, List.set_cons_zero, List.set_cons_succ]
  refine take_ (i := 7) (v := ?_) rfl (by kernel_rfl) (by kernel_rfl) (by kernel_rfl) (fun _ _ _ h => h) (Or.inl ⟨by rfl, ?_⟩) JC0.out ?_
  rotate_left
  · (intro w5 hSw; have k0 := (hSw.cell (p := ⟨g, 0, none⟩) hgs hne).trans c0; have e0 := (hSw.cell (p := ⟨A, 0, none⟩) hAM hneA).trans d0; have e1 := (hSw.cell (p := ⟨A, 1, none⟩) hAM hneA).trans d1; have e2 := (hSw.cell (p := ⟨A, 2, none⟩) hAM hneA).trans d2; have e3 := (hSw.cell (p := ⟨A, 3, none⟩) hAM hneA).trans d3; have e4 := (hSw.cell (p := ⟨A, 4, none⟩) hAM hneA).trans d4; have e5 := (hSw.cell (p := ⟨A, 5, none⟩) hAM hneA).trans d5; have e6 := (hSw.cell (p := ⟨A, 6, none⟩) hAM hneA).trans d6; have e7 := (hSw.cell (p := ⟨A, 7, none⟩) hAM hneA).trans d7; have e8 := (hSw.cell (p := ⟨A, 8, none⟩) hAM hneA).trans d8; go_simp; try (with_reducible rfl))
  try simp only [Act.put, List.setIfInBounds_toArray, List.set_cons_zero, List.set_cons_succ]
  refine wpAnyH_ready (rs := [8]) (by kernel_rfl) (by simp) ?_
  refine cons_ rfl (fun K hK => ?_) nil_
  go_simp
  (go_at_call 16; refine (still_calls win w0).mono ?_; rintro e W2 ⟨rfl, hb⟩)
  have HB2 := hide (be_call hb HB0.out.size HB0.out)
  go_wp2_with fail
  refine hK.out _ _ (Kp.of_below HB2.out) (fun _ => ?_)
  try simp only [Act.put, List.setIfInBounds_toArray, List.set_cons_zero, List.set_cons_succ]
  have JC2 := hide (Kp.of_below (lb := lb) HB2.out)
  clear hK hb
  refine take_ (i := 9) (v := ?_) rfl (by kernel_rfl) (by kernel_rfl) (by kernel_rfl) (fun _ _ _ h => h) (Or.inl ⟨by rfl, ?_⟩) JC2.out ?_
  rotate_left
  · (intro w5 hSw; skip; go_simp; try (with_reducible rfl))
  try simp only [Act.put, List.setIfInBounds_toArray, List.set_cons_zero, List.set_cons_succ]
  refine wpAnyH_ready (rs := [10]) (by kernel_rfl) (by simp) ?_
  refine cons_ rfl (fun K hK => ?_) nil_
  go_simp
  refine hK.out _ _ (Kp.of_below (be_alloc HB2.out HB2.out.size)) (fun _ => ?_)
  try simp only [Act.put, List.setIfInBounds_toArray, List.set_cons_zero, List.set_cons_succ]
  refine letter_ (fun w3 => Below M.heap.size M w3 ∧ w3.heap[W2.heap.size]? = some (.cells (evC (t, n, 2, win)).toArray 49 (0, 0))) ⟨be_alloc HB2.out HB2.out.size, bs_new rfl⟩ ?_
  rintro W3 ⟨hb3, hx3⟩
  have HB3 := hide hb3
  have hs3 := hb3.size
  clear hK hb3 c0 d0 d1 d2 d3 d4 d5 d6 d7 d8
  generalize W2.heap.size = b2 at *
  refine wpAnyH_ready (rs := [11]) (by kernel_rfl) (by simp) ?_
  refine cons_ rfl (fun K hK => ?_) nil_
  refine step_append_lies _ (by rfl) (.tmp 12) (.tmp 18) _ (by rfl) (g + 1) 49 i0 _ 12 112 Try.underlying33 hi hz0 hz1 hz2 rfl (by omega) v k (flatE evs) (by rfl) (HA.out _ HB3.out) _ 1 1 (evC (t, n, 2, win)) (by rfl) (by rfl) (World.news_of_block (cs := (evC (t, n, 2, win)).toArray) (t := 49) (fr := (0, 0)) hx3) (by simp [evC, Value.oneCell']) (by omega) (by unfold maxLen; omega) (by omega) (by omega) _ rfl ?_
  intro gg cap1 W4 hown1 hgrow hat hlt1
  rw [HVB.out] at hgrow hat
  have HAT := hide (show lb = some gg ∨ M.heap.size ≤ gg from hat.imp id (fun e => by omega))
  refine hK.out _ _ (Kp.grown (Kp.of_below HB3.out) hgrow) (fun hq => ?_)
  try simp only [Act.put, List.setIfInBounds_toArray, List.set_cons_zero, List.set_cons_succ]
  have k0 := (hq.cell (p := ⟨g, 0, none⟩) hgs hne).trans (HP.out.c.1)
  have fz4 := (hq.frozen (p := ⟨g, 0, none⟩) hgs hne).trans fz
  rw [HN.out] at k0
  obtain ⟨q9, hq9⟩ := sl_to lb k cap
  rw [hq9] at k0
  refine wpAnyH_done (by kernel_rfl) ?_ _
  dsimp only [TailPost]
  clear hK hq hat HA
  go_wp2
  go_end0
  exact ⟨rfl, some gg, cap1, HP.out.push HB3.out hgrow hown1 HN.out, (Fh.of_below HWM.out).trans (Fh.push HB3.out hgrow HAT.out 0 _)⟩
end Go.Proofs.Ytkdfdcppeolbjaa.HistOps


