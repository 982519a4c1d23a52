/- Histories: what Stamp does: contracts, for every state. -/
import Derived.Maps.OwnSet
import Derived.Test.YtkdfdcppeolbjaaHistFirst
namespace Go.Proofs.Ytkdfdcppeolbjaa.HistStamp
open Go Go.RowKit Go.Maps Go.Proofs.YtkdfdcppeolbjaaKit Go.Proofs.Ytkdfdcppeolbjaa.Mem Go.Proofs.Ytkdfdcppeolbjaa.HistBase Go.Proofs.Ytkdfdcppeolbjaa.HistStill Go.Proofs.Ytkdfdcppeolbjaa.HistOps Go.Proofs.Ytkdfdcppeolbjaa.HistRead Go.Proofs.Ytkdfdcppeolbjaa.HistFirst Go.Proofs.Ytkdfdcppeolbjaa.Split
attribute [local go_sem] cell_alloc_some cell_alloc2_some cell_alloc3_some cell_alloc4_some
set_option linter.unusedVariables false
set_option linter.unusedSimpArgs false
abbrev OwnM (W : World) (B m : Nat) (D : Dw) : Prop := W.ownsMap Try.prog 28 (plainElem Try.prog 3) B m D
theorem run_look_ok {W : World} {B m : Nat} {D : Dw} (h : OwnM W B m D) {s : Int × Int} (h1 : wfI s.1) (h2 : wfI s.2) {c : Int} (hc : D.atKey (kl s) (.lit (.int .i64 0)) = .lit (.int .i64 c)) :
    (Instr.lookup 25 (.map (some B)) (Kv s) true).run Try.prog W = .ok (.tuple #[.int .i64 c, .bool (has D (kl s))]) W := by
  obtain ⟨v, ps, hrun, hv⟩ := h.look_ok lawS Try.underlying25 (zero3 W) (plainElem_int Try.underlying3 (by decide)) (key_of h1 h2)
  obtain ⟨c', rfl, hc', _⟩ := plainElem_int_inv Try.underlying3 hv
  rw [hrun]
  have := congrArg Prod.fst hc'
  simp only [hc] at this
  injection this with this
  injection this with _ this
  rw [this]
theorem run_look {W : World} {B m : Nat} {D : Dw} (h : OwnM W B m D) {s : Int × Int} (h1 : wfI s.1) (h2 : wfI s.2) {c : Int} (hc : D.atKey (kl s) (.lit (.int .i64 0)) = .lit (.int .i64 c)) :
    (Instr.lookup 25 (.map (some B)) (Kv s) false).run Try.prog W = .ok (.int .i64 c) W := by
  obtain ⟨c', hrun, hat, _⟩ := h.lookup_int lawS Try.underlying25 Try.underlying3 (zero3 W) (key_of h1 h2)
  rw [hrun]
  rw [hc] at hat
  injection hat with hat
  injection hat with _ hat
  rw [hat]
theorem step_map {P : Program} {k e : TypeId} {R : Value → Option (Dw × List MemPlace)} {ops : Array Oper} {o : Oper} {a : Act} {K : Act → World → Prop} {Q : Exit → Act → World → Prop} {E : Prop} (w : World) (hgd : o.guard = none) (m x v : Operand) (t : TypeId)
    (ho : o.op = Op.mapUpdate t m x v) (Kd : Keyed P k) (ht : P.underlying t = some (.map k e)) (B n : Nat) (D : Dw)
    (hm : a.eval m = .map (some B)) (hown : w.ownsMap P k R B n D) (hn : n < maxLen) (key val : Value) (l : Lit) (hx : a.eval x = key) (hv : a.eval v = val) (hkey : keyOf P k key = some l) (d : Dw) (ps : List MemPlace) (hval : R val = some (d, ps))
    (h : ∀ w', w'.ownsMap P k R B (n + 1) (D.put l d) → w.grownBy w' (some B) → K (a.put o.dst undef) w') : if Region.wanted o (yielded ops a.tmps) = true then Oper.wp P o a w K Q else E := by
  have hw : Region.wanted o (yielded ops a.tmps) = true := by simp [Region.wanted, hgd]
  rw [if_pos hw]
  obtain ⟨w', hrun, r1, r2⟩ := hown.update Kd ht hn hkey hval
  unfold Oper.wp
  simp [execOp, ho, hm, hx, hv, hrun, Result.andThen]
  exact h w' r1 r2
theorem atKey_no {D : Dw} {s : Int × Int} (h : has D (kl s) = false) : D.atKey (kl s) (.lit (.int .i64 0)) = .lit (.int .i64 0) := atKey_of_not_has h _
section
variable (t n : Int) (w W : World) (g : Nat) (lb : Option Nat) (cap : Nat) (ob : Option Nat) (oc B m : Nat) (evs : List Ev) (od : List (Int × Int)) (D : Dw)
set_option maxHeartbeats 8000000 in
set_option maxRecDepth 100000 in
theorem stamp_old (k : Nat) (ht : wfI t) (hn : wfI n) (h : Hi w W g lb cap ob oc B m evs od D) (hp : place od (t, n) = some k) :
    Calls Try.prog 7 #[.pointer (some ⟨g, 0, none⟩), .int .i64 t, .int .i64 n] W fun e W' => e = .returned (.int .i64 (k : Int)) ∧ Below W.heap.size W W' := by
  obtain ⟨hh, hat⟩ := h.ix.yes (t, n) k ht hn hp
  have H0 := hide h
  have HL := hide (fun (W' : World) (hb : Below W.heap.size W W') => run_look_ok (h.then_ hb).map ht hn hat)
  rw [hh] at HL
  clear h hp hh hat
  go_enter Try.func7, Try.ntmps7
  go_upto_region 2 with fail
  refine wp_letter (fun M => Below W.heap.size W M ∧ M.heap[W.heap.size]? = some (.cells #[.int .i64 t, .int .i64 n] 28 (0, 0))) ⟨be_alloc (be_refl _) (Nat.le_refl _), bs_new rfl⟩ ?_
  rintro M ⟨hB, hA⟩
  obtain ⟨_, _, c2⟩ := (H0.out.then_ hB).c
  have hgs := World.block_lt_of_cell? _ _ c2
  dsimp only at hgs
  have HB := hide hB
  have hsz := hB.size
  obtain ⟨A, hAe⟩ : ∃ A, A = W.heap.size := ⟨_, rfl⟩
  rw [← hAe] at hA ⊢
  have hAs := bs_lt hA
  obtain ⟨d0, d1, _⟩ := cells2 hA
  clear hB hA H0 hAe
  refine wp_region_held (S := fun w' => Below M.heap.size M w') (by kernel_rfl) ?_
  have JC0 := hide (show Below M.heap.size M M.drew from be_drew (be_refl _))
  change wpAnyH _ _ _ _ _ _ _ _ M.drew
  generalize M.drew = W0 at *
  have HLS := hide (fun (W' : World) (hb : Below M.heap.size M W') => HL.out W' (be_call hb hsz HB.out))
  refine take_ (i := 0) (v := ?_) rfl (by kernel_rfl) (by kernel_rfl) (by kernel_rfl) (fun _ _ _ h => h) (Or.inl ⟨by rfl, ?_⟩) JC0.out ?_
  rotate_left
  · (intro w5 hSw; have k0 := (hSw.cell (p := ⟨g, 2, none⟩) hgs).trans c2; have k1 := (hSw.cell (p := ⟨A, 0, none⟩) hAs).trans d0; have k2 := (hSw.cell (p := ⟨A, 1, none⟩) hAs).trans d1; have k3 := HLS.out _ hSw; go_simp; try (with_reducible rfl))
  try simp only [Act.put, List.setIfInBounds_toArray, List.set_cons_zero, List.set_cons_succ]
  refine take_ (i := 1) (v := ?_) rfl (by kernel_rfl) (by kernel_rfl) (by kernel_rfl) (fun _ _ _ h => h) (Or.inl ⟨by rfl, ?_⟩) JC0.out ?_
  rotate_left
  · (intro w5 hSw; have k0 := (hSw.cell (p := ⟨g, 2, none⟩) hgs).trans c2; have k1 := (hSw.cell (p := ⟨A, 0, none⟩) hAs).trans d0; have k2 := (hSw.cell (p := ⟨A, 1, none⟩) hAs).trans d1; have k3 := HLS.out _ hSw; go_simp; try (with_reducible rfl))
  try simp only [Act.put, List.setIfInBounds_toArray, List.set_cons_zero, List.set_cons_succ]
  refine take_ (i := 2) (v := ?_) rfl (by kernel_rfl) (by kernel_rfl) (by kernel_rfl) (fun _ _ _ h => h) (Or.inl ⟨by rfl, ?_⟩) JC0.out ?_
  rotate_left
  · (intro w5 hSw; have k0 := (hSw.cell (p := ⟨g, 2, none⟩) hgs).trans c2; have k1 := (hSw.cell (p := ⟨A, 0, none⟩) hAs).trans d0; have k2 := (hSw.cell (p := ⟨A, 1, none⟩) hAs).trans d1; have k3 := HLS.out _ hSw; go_simp; try (with_reducible rfl))
  try simp only [Act.put, List.setIfInBounds_toArray, List.set_cons_zero, List.set_cons_succ]
  refine take_ (i := 3) (v := ?_) rfl (by kernel_rfl) (by kernel_rfl) (by kernel_rfl) (fun _ _ _ h => h) (Or.inl ⟨by rfl, ?_⟩) JC0.out ?_
  rotate_left
  · (intro w5 hSw; have k0 := (hSw.cell (p := ⟨g, 2, none⟩) hgs).trans c2; have k1 := (hSw.cell (p := ⟨A, 0, none⟩) hAs).trans d0; have k2 := (hSw.cell (p := ⟨A, 1, none⟩) hAs).trans d1; have k3 := HLS.out _ hSw; go_simp; try (with_reducible rfl))
  try simp only [Act.put, List.setIfInBounds_toArray, List.set_cons_zero, List.set_cons_succ]
  refine take_ (i := 4) (v := ?_) rfl (by kernel_rfl) (by kernel_rfl) (by kernel_rfl) (fun _ _ _ h => h) (Or.inl ⟨by rfl, ?_⟩) JC0.out ?_
  rotate_left
  · (intro w5 hSw; have k0 := (hSw.cell (p := ⟨g, 2, none⟩) hgs).trans c2; have k1 := (hSw.cell (p := ⟨A, 0, none⟩) hAs).trans d0; have k2 := (hSw.cell (p := ⟨A, 1, none⟩) hAs).trans d1; have k3 := HLS.out _ hSw; go_simp; try (with_reducible rfl))
  try simp only [Act.put, List.setIfInBounds_toArray, List.set_cons_zero, List.set_cons_succ]
  refine take_ (i := 5) (v := ?_) rfl (by kernel_rfl) (by kernel_rfl) (by kernel_rfl) (fun _ _ _ h => h) (Or.inl ⟨by rfl, ?_⟩) JC0.out ?_
  rotate_left
  · (intro w5 hSw; have k0 := (hSw.cell (p := ⟨g, 2, none⟩) hgs).trans c2; have k1 := (hSw.cell (p := ⟨A, 0, none⟩) hAs).trans d0; have k2 := (hSw.cell (p := ⟨A, 1, none⟩) hAs).trans d1; have k3 := HLS.out _ hSw; go_simp; try (with_reducible rfl))
  try simp only [Act.put, List.setIfInBounds_toArray, List.set_cons_zero, List.set_cons_succ]
  refine take_ (i := 6) (v := ?_) rfl (by kernel_rfl) (by kernel_rfl) (by kernel_rfl) (fun _ _ _ h => h) (Or.inl ⟨by rfl, ?_⟩) JC0.out ?_
  rotate_left
  · (intro w5 hSw; have k0 := (hSw.cell (p := ⟨g, 2, none⟩) hgs).trans c2; have k1 := (hSw.cell (p := ⟨A, 0, none⟩) hAs).trans d0; have k2 := (hSw.cell (p := ⟨A, 1, none⟩) hAs).trans d1; have k3 := HLS.out _ hSw; go_simp; try (with_reducible rfl))
  try simp only [Act.put, List.setIfInBounds_toArray, List.set_cons_zero, List.set_cons_succ]
  refine take_ (i := 7) (v := ?_) rfl (by kernel_rfl) (by kernel_rfl) (by kernel_rfl) (fun _ _ _ h => h) (Or.inl ⟨by rfl, ?_⟩) JC0.out ?_
  rotate_left
  · (intro w5 hSw; have k0 := (hSw.cell (p := ⟨g, 2, none⟩) hgs).trans c2; have k1 := (hSw.cell (p := ⟨A, 0, none⟩) hAs).trans d0; have k2 := (hSw.cell (p := ⟨A, 1, none⟩) hAs).trans d1; have k3 := HLS.out _ hSw; go_simp; try (with_reducible rfl))
  try simp only [Act.put, List.setIfInBounds_toArray, List.set_cons_zero, List.set_cons_succ]
  refine take_ (i := 8) (v := ?_) rfl (by kernel_rfl) (by kernel_rfl) (by kernel_rfl) (fun _ _ _ h => h) (Or.inl ⟨by rfl, ?_⟩) JC0.out ?_
  rotate_left
  · (intro w5 hSw; have k0 := (hSw.cell (p := ⟨g, 2, none⟩) hgs).trans c2; have k1 := (hSw.cell (p := ⟨A, 0, none⟩) hAs).trans d0; have k2 := (hSw.cell (p := ⟨A, 1, none⟩) hAs).trans d1; have k3 := HLS.out _ hSw; go_simp; try (with_reducible rfl))
  try simp only [Act.put, List.setIfInBounds_toArray, List.set_cons_zero, List.set_cons_succ]
  refine take_ (i := 9) (v := ?_) rfl (by kernel_rfl) (by kernel_rfl) (by kernel_rfl) (fun _ _ _ h => h) (Or.inl ⟨by rfl, ?_⟩) JC0.out ?_
  rotate_left
  · (intro w5 hSw; have k0 := (hSw.cell (p := ⟨g, 2, none⟩) hgs).trans c2; have k1 := (hSw.cell (p := ⟨A, 0, none⟩) hAs).trans d0; have k2 := (hSw.cell (p := ⟨A, 1, none⟩) hAs).trans d1; have k3 := HLS.out _ hSw; go_simp; try (with_reducible rfl))
  try simp only [Act.put, List.setIfInBounds_toArray, List.set_cons_zero, List.set_cons_succ]
  refine take_ (i := 10) (v := ?_) rfl (by kernel_rfl) (by kernel_rfl) (by kernel_rfl) (fun _ _ _ h => h) (Or.inl ⟨by rfl, ?_⟩) JC0.out ?_
  rotate_left
  · (intro w5 hSw; have k0 := (hSw.cell (p := ⟨g, 2, none⟩) hgs).trans c2; have k1 := (hSw.cell (p := ⟨A, 0, none⟩) hAs).trans d0; have k2 := (hSw.cell (p := ⟨A, 1, none⟩) hAs).trans d1; have k3 := HLS.out _ hSw; go_simp; try (with_reducible rfl))
  try simp only [Act.put, List.setIfInBounds_toArray, List.set_cons_zero, List.set_cons_succ]
  refine wpAnyH_done (by kernel_rfl) ?_ _
  go_wp2
  go_ret
  exact ⟨rfl, be_call JC0.out hsz HB.out⟩
set_option maxHeartbeats 16000000 in
set_option maxRecDepth 100000 in
theorem stamp_new (ht : wfI t) (hn : wfI n) (h : Hi w W g lb cap ob oc B m evs od D) (hp : place od (t, n) = none) (hl : od.length ≤ 1000000) :
    Calls Try.prog 7 #[.pointer (some ⟨g, 0, none⟩), .int .i64 t, .int .i64 n] W fun e W' => e = .returned (.int .i64 (od.length : Int)) ∧ ∃ ob' oc' D', Hi w W' g lb cap ob' oc' B (m + 1) evs (od ++ [(t, n)]) D' ∧ Fh g B W lb ob W' lb ob' := by
  obtain ⟨i0, hi, hz0, hz1, hz2⟩ := info_parts spotInfo
  have hh := h.ix.no (t, n) ht hn hp
  have H0 := hide h
  have HL := hide (fun (W' : World) (hb : Below W.heap.size W W') => run_look_ok (h.then_ hb).map ht hn (atKey_no hh))
  rw [hh] at HL
  have HP := hide hp
  have HWF := hide (And.intro ht hn)
  clear h hp hh ht hn
  go_enter Try.func7, Try.ntmps7
  go_upto_region 2 with fail
  refine wp_letter (fun M => Below W.heap.size W M ∧ M.heap[W.heap.size]? = some (.cells #[.int .i64 t, .int .i64 n] 28 (0, 0))) ⟨be_alloc (be_refl _) (Nat.le_refl _), bs_new rfl⟩ ?_
  rintro M ⟨hB, hA⟩
  obtain ⟨_, _, c2⟩ := (H0.out.then_ hB).c
  have hgs := World.block_lt_of_cell? _ _ c2
  dsimp only at hgs
  have HB := hide hB
  have hsz := hB.size
  obtain ⟨A, hAe⟩ : ∃ A, A = W.heap.size := ⟨_, rfl⟩
  rw [← hAe] at hA ⊢
  have HAW := hide hAe
  have hAs := bs_lt hA
  have HAM := hide hA
  obtain ⟨d0, d1, _⟩ := cells2 hA
  clear hB hA hAe
  refine wp_region_held (S := fun w' => Below M.heap.size M w') (by kernel_rfl) ?_
  have JC0 := hide (show Below M.heap.size M M.drew from be_drew (be_refl _))
  change wpAnyH _ _ _ _ _ _ _ _ M.drew
  generalize M.drew = W0 at *
  have HLS := hide (fun (W' : World) (hb : Below M.heap.size M W') => HL.out W' (be_call hb hsz HB.out))
  refine take_ (i := 0) (v := ?_) rfl (by kernel_rfl) (by kernel_rfl) (by kernel_rfl) (fun _ _ _ h => h) (Or.inl ⟨by rfl, ?_⟩) JC0.out ?_
  rotate_left
  · (intro w5 hSw; have k0 := (hSw.cell (p := ⟨g, 2, none⟩) hgs).trans c2; have k1 := (hSw.cell (p := ⟨A, 0, none⟩) hAs).trans d0; have k2 := (hSw.cell (p := ⟨A, 1, none⟩) hAs).trans d1; have k3 := HLS.out _ hSw; go_simp; try (with_reducible rfl))
  try simp only [Act.put, List.setIfInBounds_toArray, List.set_cons_zero, List.set_cons_succ]
  refine take_ (i := 1) (v := ?_) rfl (by kernel_rfl) (by kernel_rfl) (by kernel_rfl) (fun _ _ _ h => h) (Or.inl ⟨by rfl, ?_⟩) JC0.out ?_
  rotate_left
  · (intro w5 hSw; have k0 := (hSw.cell (p := ⟨g, 2, none⟩) hgs).trans c2; have k1 := (hSw.cell (p := ⟨A, 0, none⟩) hAs).trans d0; have k2 := (hSw.cell (p := ⟨A, 1, none⟩) hAs).trans d1; have k3 := HLS.out _ hSw; go_simp; try (with_reducible rfl))
  try simp only [Act.put, List.setIfInBounds_toArray, List.set_cons_zero, List.set_cons_succ]
  refine take_ (i := 2) (v := ?_) rfl (by kernel_rfl) (by kernel_rfl) (by kernel_rfl) (fun _ _ _ h => h) (Or.inl ⟨by rfl, ?_⟩) JC0.out ?_
  rotate_left
  · (intro w5 hSw; have k0 := (hSw.cell (p := ⟨g, 2, none⟩) hgs).trans c2; have k1 := (hSw.cell (p := ⟨A, 0, none⟩) hAs).trans d0; have k2 := (hSw.cell (p := ⟨A, 1, none⟩) hAs).trans d1; have k3 := HLS.out _ hSw; go_simp; try (with_reducible rfl))
  try simp only [Act.put, List.setIfInBounds_toArray, List.set_cons_zero, List.set_cons_succ]
  refine take_ (i := 3) (v := ?_) rfl (by kernel_rfl) (by kernel_rfl) (by kernel_rfl) (fun _ _ _ h => h) (Or.inl ⟨by rfl, ?_⟩) JC0.out ?_
  rotate_left
  · (intro w5 hSw; have k0 := (hSw.cell (p := ⟨g, 2, none⟩) hgs).trans c2; have k1 := (hSw.cell (p := ⟨A, 0, none⟩) hAs).trans d0; have k2 := (hSw.cell (p := ⟨A, 1, none⟩) hAs).trans d1; have k3 := HLS.out _ hSw; go_simp; try (with_reducible rfl))
  try simp only [Act.put, List.setIfInBounds_toArray, List.set_cons_zero, List.set_cons_succ]
  refine take_ (i := 4) (v := ?_) rfl (by kernel_rfl) (by kernel_rfl) (by kernel_rfl) (fun _ _ _ h => h) (Or.inl ⟨by rfl, ?_⟩) JC0.out ?_
  rotate_left
  · (intro w5 hSw; have k0 := (hSw.cell (p := ⟨g, 2, none⟩) hgs).trans c2; have k1 := (hSw.cell (p := ⟨A, 0, none⟩) hAs).trans d0; have k2 := (hSw.cell (p := ⟨A, 1, none⟩) hAs).trans d1; have k3 := HLS.out _ hSw; go_simp; try (with_reducible rfl))
  try simp only [Act.put, List.setIfInBounds_toArray, List.set_cons_zero, List.set_cons_succ]
  refine take_ (i := 5) (v := ?_) rfl (by kernel_rfl) (by kernel_rfl) (by kernel_rfl) (fun _ _ _ h => h) (Or.inl ⟨by rfl, ?_⟩) JC0.out ?_
  rotate_left
  · (intro w5 hSw; have k0 := (hSw.cell (p := ⟨g, 2, none⟩) hgs).trans c2; have k1 := (hSw.cell (p := ⟨A, 0, none⟩) hAs).trans d0; have k2 := (hSw.cell (p := ⟨A, 1, none⟩) hAs).trans d1; have k3 := HLS.out _ hSw; go_simp; try (with_reducible rfl))
  try simp only [Act.put, List.setIfInBounds_toArray, List.set_cons_zero, List.set_cons_succ]
  refine take_ (i := 6) (v := ?_) rfl (by kernel_rfl) (by kernel_rfl) (by kernel_rfl) (fun _ _ _ h => h) (Or.inl ⟨by rfl, ?_⟩) JC0.out ?_
  rotate_left
  · (intro w5 hSw; have k0 := (hSw.cell (p := ⟨g, 2, none⟩) hgs).trans c2; have k1 := (hSw.cell (p := ⟨A, 0, none⟩) hAs).trans d0; have k2 := (hSw.cell (p := ⟨A, 1, none⟩) hAs).trans d1; have k3 := HLS.out _ hSw; go_simp; try (with_reducible rfl))
  try simp only [Act.put, List.setIfInBounds_toArray, List.set_cons_zero, List.set_cons_succ]
  refine take_ (i := 7) (v := ?_) rfl (by kernel_rfl) (by kernel_rfl) (by kernel_rfl) (fun _ _ _ h => h) (Or.inl ⟨by rfl, ?_⟩) JC0.out ?_
  rotate_left
  · (intro w5 hSw; have k0 := (hSw.cell (p := ⟨g, 2, none⟩) hgs).trans c2; have k1 := (hSw.cell (p := ⟨A, 0, none⟩) hAs).trans d0; have k2 := (hSw.cell (p := ⟨A, 1, none⟩) hAs).trans d1; have k3 := HLS.out _ hSw; go_simp; try (with_reducible rfl))
  try simp only [Act.put, List.setIfInBounds_toArray, List.set_cons_zero, List.set_cons_succ]
  refine take_ (i := 8) (v := ?_) rfl (by kernel_rfl) (by kernel_rfl) (by kernel_rfl) (fun _ _ _ h => h) (Or.inl ⟨by rfl, ?_⟩) JC0.out ?_
  rotate_left
  · (intro w5 hSw; have k0 := (hSw.cell (p := ⟨g, 2, none⟩) hgs).trans c2; have k1 := (hSw.cell (p := ⟨A, 0, none⟩) hAs).trans d0; have k2 := (hSw.cell (p := ⟨A, 1, none⟩) hAs).trans d1; have k3 := HLS.out _ hSw; go_simp; try (with_reducible rfl))
  try simp only [Act.put, List.setIfInBounds_toArray, List.set_cons_zero, List.set_cons_succ]
  refine take_ (i := 9) (v := ?_) rfl (by kernel_rfl) (by kernel_rfl) (by kernel_rfl) (fun _ _ _ h => h) (Or.inl ⟨by rfl, ?_⟩) JC0.out ?_
  rotate_left
  · (intro w5 hSw; have k0 := (hSw.cell (p := ⟨g, 2, none⟩) hgs).trans c2; have k1 := (hSw.cell (p := ⟨A, 0, none⟩) hAs).trans d0; have k2 := (hSw.cell (p := ⟨A, 1, none⟩) hAs).trans d1; have k3 := HLS.out _ hSw; go_simp; try (with_reducible rfl))
  try simp only [Act.put, List.setIfInBounds_toArray, List.set_cons_zero, List.set_cons_succ]
  refine take_ (i := 10) (v := ?_) rfl (by kernel_rfl) (by kernel_rfl) (by kernel_rfl) (fun _ _ _ h => h) (Or.inl ⟨by rfl, ?_⟩) JC0.out ?_
  rotate_left
  · (intro w5 hSw; have k0 := (hSw.cell (p := ⟨g, 2, none⟩) hgs).trans c2; have k1 := (hSw.cell (p := ⟨A, 0, none⟩) hAs).trans d0; have k2 := (hSw.cell (p := ⟨A, 1, none⟩) hAs).trans d1; have k3 := HLS.out _ hSw; go_simp; try (with_reducible rfl))
  try simp only [Act.put, List.setIfInBounds_toArray, List.set_cons_zero, List.set_cons_succ]
  refine wpAnyH_done (by kernel_rfl) ?_ _
  go_upto_region 5 with fail
  have hB0 : Below W.heap.size W W0 := be_call JC0.out hsz HB.out
  have hA0 := bs_below JC0.out hAs HAM.out
  have H1 := H0.out.then_ hB0
  clear c2 hgs hsz d0 d1 hAs HL HLS HAM HB JC0
  have hgl := H1.lt
  have hob := own_ge H1.ord
  have hAB : A ≠ B := fun e => by have := H0.out.map.lt; have := HAW.out; omega
  have hAg : A ≠ g := fun e => by have := bs_lt H0.out.obj; have := HAW.out; omega
  have hAo : some A ≠ ob := fun e => by have := (own_ge H0.out.ord A e.symm).2; have := HAW.out; omega
  obtain ⟨_, c1, c2⟩ := H1.c
  have hgs := bs_lt H1.obj
  have hAs := bs_lt hA0
  obtain ⟨d0, d1, _⟩ := cells2 hA0
  obtain ⟨q, hq⟩ := sl_to ob od.length oc
  rw [hq] at c1
  have HQ := hide hq
  have HA0 := hide hA0
  have H1' := hide H1
  have HF0 := hide (show Below W.heap.size W W0 from hB0)
  have ngB : some g ≠ some B := fun e => by cases e; omega
  have nAB : some A ≠ some B := fun e => by cases e; exact hAB rfl
  clear hB0 hA0 hq
  refine wp_region_held (S := Kp W0 (some B)) (by kernel_rfl) ?_
  have HB1 := hide (show Below W0.heap.size W0 W0.drew from be_drew (be_refl _))
  have JC1 := hide (show Kp W0 (some B) W0.drew from Kp.of_below HB1.out)
  change wpAnyH _ _ _ _ _ _ _ _ W0.drew
  generalize W0.drew = W1 at *
  refine take_ (i := 0) (v := ?_) rfl (by kernel_rfl) (by kernel_rfl) (by kernel_rfl) (fun _ _ _ h => h) (Or.inl ⟨by rfl, ?_⟩) JC1.out ?_
  rotate_left
  · (intro w5 hSw; have k0 := (hSw.cell (p := ⟨g, 2, none⟩) hgs ngB).trans c2; have k4 := (hSw.cell (p := ⟨g, 1, none⟩) hgs ngB).trans c1; have k1 := (hSw.cell (p := ⟨A, 0, none⟩) hAs nAB).trans d0; have k2 := (hSw.cell (p := ⟨A, 1, none⟩) hAs nAB).trans d1; go_simp; try (with_reducible rfl))
  try simp only [Act.put, List.setIfInBounds_toArray, List.set_cons_zero, List.set_cons_succ]
  refine take_ (i := 1) (v := ?_) rfl (by kernel_rfl) (by kernel_rfl) (by kernel_rfl) (fun _ _ _ h => h) (Or.inl ⟨by rfl, ?_⟩) JC1.out ?_
  rotate_left
  · (intro w5 hSw; have k0 := (hSw.cell (p := ⟨g, 2, none⟩) hgs ngB).trans c2; have k4 := (hSw.cell (p := ⟨g, 1, none⟩) hgs ngB).trans c1; have k1 := (hSw.cell (p := ⟨A, 0, none⟩) hAs nAB).trans d0; have k2 := (hSw.cell (p := ⟨A, 1, none⟩) hAs nAB).trans d1; go_simp; try (with_reducible rfl))
  try simp only [Act.put, List.setIfInBounds_toArray, List.set_cons_zero, List.set_cons_succ]
  refine take_ (i := 2) (v := ?_) rfl (by kernel_rfl) (by kernel_rfl) (by kernel_rfl) (fun _ _ _ h => h) (Or.inl ⟨by rfl, ?_⟩) JC1.out ?_
  rotate_left
  · (intro w5 hSw; have k0 := (hSw.cell (p := ⟨g, 2, none⟩) hgs ngB).trans c2; have k4 := (hSw.cell (p := ⟨g, 1, none⟩) hgs ngB).trans c1; have k1 := (hSw.cell (p := ⟨A, 0, none⟩) hAs nAB).trans d0; have k2 := (hSw.cell (p := ⟨A, 1, none⟩) hAs nAB).trans d1; go_simp; try (with_reducible rfl))
  try simp only [Act.put, List.setIfInBounds_toArray, List.set_cons_zero, List.set_cons_succ]
  refine take_ (i := 3) (v := ?_) rfl (by kernel_rfl) (by kernel_rfl) (by kernel_rfl) (fun _ _ _ h => h) (Or.inl ⟨by rfl, ?_⟩) JC1.out ?_
  rotate_left
  · (intro w5 hSw; have k0 := (hSw.cell (p := ⟨g, 2, none⟩) hgs ngB).trans c2; have k4 := (hSw.cell (p := ⟨g, 1, none⟩) hgs ngB).trans c1; have k1 := (hSw.cell (p := ⟨A, 0, none⟩) hAs nAB).trans d0; have k2 := (hSw.cell (p := ⟨A, 1, none⟩) hAs nAB).trans d1; go_simp; try (with_reducible rfl))
  try simp only [Act.put, List.setIfInBounds_toArray, List.set_cons_zero, List.set_cons_succ]
  refine take_ (i := 4) (v := ?_) rfl (by kernel_rfl) (by kernel_rfl) (by kernel_rfl) (fun _ _ _ h => h) (Or.inl ⟨by rfl, ?_⟩) JC1.out ?_
  rotate_left
  · (intro w5 hSw; have k0 := (hSw.cell (p := ⟨g, 2, none⟩) hgs ngB).trans c2; have k4 := (hSw.cell (p := ⟨g, 1, none⟩) hgs ngB).trans c1; have k1 := (hSw.cell (p := ⟨A, 0, none⟩) hAs nAB).trans d0; have k2 := (hSw.cell (p := ⟨A, 1, none⟩) hAs nAB).trans d1; go_simp; try (with_reducible rfl))
  try simp only [Act.put, List.setIfInBounds_toArray, List.set_cons_zero, List.set_cons_succ]
  refine take_ (i := 5) (v := ?_) rfl (by kernel_rfl) (by kernel_rfl) (by kernel_rfl) (fun _ _ _ h => h) (Or.inl ⟨by rfl, ?_⟩) JC1.out ?_
  rotate_left
  · (intro w5 hSw; have k0 := (hSw.cell (p := ⟨g, 2, none⟩) hgs ngB).trans c2; have k4 := (hSw.cell (p := ⟨g, 1, none⟩) hgs ngB).trans c1; have k1 := (hSw.cell (p := ⟨A, 0, none⟩) hAs nAB).trans d0; have k2 := (hSw.cell (p := ⟨A, 1, none⟩) hAs nAB).trans d1; go_simp; try (with_reducible rfl))
  try simp only [Act.put, List.setIfInBounds_toArray, List.set_cons_zero, List.set_cons_succ]
  refine take_ (i := 6) (v := ?_) rfl (by kernel_rfl) (by kernel_rfl) (by kernel_rfl) (fun _ _ _ h => h) (Or.inl ⟨by rfl, ?_⟩) JC1.out ?_
  rotate_left
  · (intro w5 hSw; have k0 := (hSw.cell (p := ⟨g, 2, none⟩) hgs ngB).trans c2; have k4 := (hSw.cell (p := ⟨g, 1, none⟩) hgs ngB).trans c1; have k1 := (hSw.cell (p := ⟨A, 0, none⟩) hAs nAB).trans d0; have k2 := (hSw.cell (p := ⟨A, 1, none⟩) hAs nAB).trans d1; go_simp; try (with_reducible rfl))
  try simp only [Act.put, List.setIfInBounds_toArray, List.set_cons_zero, List.set_cons_succ]
  refine take_ (i := 7) (v := ?_) rfl (by kernel_rfl) (by kernel_rfl) (by kernel_rfl) (fun _ _ _ h => h) (Or.inl ⟨by rfl, ?_⟩) JC1.out ?_
  rotate_left
  · (intro w5 hSw; have k0 := (hSw.cell (p := ⟨g, 2, none⟩) hgs ngB).trans c2; have k4 := (hSw.cell (p := ⟨g, 1, none⟩) hgs ngB).trans c1; have k1 := (hSw.cell (p := ⟨A, 0, none⟩) hAs nAB).trans d0; have k2 := (hSw.cell (p := ⟨A, 1, none⟩) hAs nAB).trans d1; go_simp; try (with_reducible rfl))
  try simp only [Act.put, List.setIfInBounds_toArray, List.set_cons_zero, List.set_cons_succ]
  refine take_ (i := 8) (v := ?_) rfl (by kernel_rfl) (by kernel_rfl) (by kernel_rfl) (fun _ _ _ h => h) (Or.inl ⟨by rfl, ?_⟩) JC1.out ?_
  rotate_left
  · (intro w5 hSw; have k0 := (hSw.cell (p := ⟨g, 2, none⟩) hgs ngB).trans c2; have k4 := (hSw.cell (p := ⟨g, 1, none⟩) hgs ngB).trans c1; have k1 := (hSw.cell (p := ⟨A, 0, none⟩) hAs nAB).trans d0; have k2 := (hSw.cell (p := ⟨A, 1, none⟩) hAs nAB).trans d1; go_simp; try (with_reducible rfl))
  try simp only [Act.put, List.setIfInBounds_toArray, List.set_cons_zero, List.set_cons_succ]
  refine take_ (i := 9) (v := ?_) rfl (by kernel_rfl) (by kernel_rfl) (by kernel_rfl) (fun _ _ _ h => h) (Or.inl ⟨by rfl, ?_⟩) JC1.out ?_
  rotate_left
  · (intro w5 hSw; have k0 := (hSw.cell (p := ⟨g, 2, none⟩) hgs ngB).trans c2; have k4 := (hSw.cell (p := ⟨g, 1, none⟩) hgs ngB).trans c1; have k1 := (hSw.cell (p := ⟨A, 0, none⟩) hAs nAB).trans d0; have k2 := (hSw.cell (p := ⟨A, 1, none⟩) hAs nAB).trans d1; go_simp; try (with_reducible rfl))
  try simp only [Act.put, List.setIfInBounds_toArray, List.set_cons_zero, List.set_cons_succ]
  refine wpAnyH_ready (rs := [10]) (by kernel_rfl) (by simp) ?_
  refine cons_ rfl (fun K hK => ?_) nil_
  have H2 := H1'.out.then_ HB1.out
  refine step_map (R := plainElem Try.prog 3) _ (by rfl) (.tmp 27) (.tmp 28) (.tmp 33) _ (by rfl) lawS Try.underlying25 B m D (by rfl) H2.map (by have := H2.m; unfold maxLen; omega) (Kv (t, n)) (.int .i64 (od.length : Int)) (kl (t, n)) (by rfl) (by rfl) (key_of HWF.out.1 HWF.out.2) _ [] (plainElem_int Try.underlying3 (WalkArith.wf_i64 (by omega))) ?_
  intro W2 hm2 hg2
  refine hK.out _ _ (Kp.grown JC1.out hg2) (fun _ => ?_)
  try simp only [Act.put, List.setIfInBounds_toArray, List.set_cons_zero, List.set_cons_succ]
  refine wpAnyH_done (by kernel_rfl) ?_ _
  have H2' := hide H2
  have HM2 := hide hm2
  have HG2 := hide hg2
  have c1' : W2.cell? ⟨g, 1, none⟩ = some (.slice q od.length oc) := (World.cell?_of_block (hg2.block g (bs_lt H2.obj) ngB)).trans ((HB1.out.cell (p := ⟨g, 1, none⟩) hgs).trans c1)
  have fz : W2.frozen? ⟨g, 1, none⟩ = false := (World.frozen?_of_block (hg2.block g (bs_lt H2.obj) ngB)).trans (bs_frozen H2.obj 1)
  have hA2 : W2.heap[A]? = _ := (hg2.block A (by have := HB1.out.size; omega) nAB).trans (bs_below HB1.out hAs HA0.out)
  have hgs2 : g < W2.heap.size := by have := hg2.size; have := bs_lt H2.obj; omega
  have hg2s := hg2.size
  clear hK JC1 c1 c2 d0 d1 hgs hAs hm2 hg2 H2
  have hAs := bs_lt hA2
  obtain ⟨d0, d1, _⟩ := cells2 hA2
  have HA2 := hide hA2
  clear hA2
  go_upto_region 6 with fail
  have hne : some g ≠ ob := fun e => by have := hob g e.symm; omega
  obtain ⟨k, hk⟩ : ∃ k, od.length = k := ⟨_, rfl⟩
  obtain ⟨v, hv⟩ : ∃ v, v = sl ob k oc := ⟨_, rfl⟩
  have hvb : v.ownBlock = ob := by rw [hv]; exact sl_block _ _ _
  have hv2 : v = .slice q k oc := by rw [hv, ← hk]; exact HQ.out
  have HVB := hide hvb
  have HK := hide hk
  have hobl : ∀ b, ob = some b → b < W2.heap.size := fun b e => by have := (own_ge H2'.out.ord b e).2; omega
  have HOB := hide hobl
  have HA : Hid (∀ W', Below W2.heap.size W2 W' → W'.ownsRow (g + 1) 28 2 v k (flatS od)) := fun W' hb => by
    have := ((H2'.out.ord.grown HG2.out (fun b e e2 => by have := (own_ge H2'.out.ord b e).1; cases e2; omega)).below hb).owns
    rw [hk, ← hv] at this
    exact this
  rw [hk] at c1' hl ⊢
  rw [← hv2] at c1'
  have HV2 := hide hv2
  clear hob hv hvb hk hobl hv2
  refine wp_region_split_ex (n := 8) (ex := 0) (vx := .pointer (some ⟨g, 0, none⟩)) (by kernel_rfl) (by kernel_rfl) (by omega) rfl (by kernel_rfl) (by kernel_rfl) (by kernel_rfl) (fun _ _ _ h => h) (Or.inl ⟨by rfl, fun w5 => by go_simp⟩) ?_
  simp only [List.take_succ_cons, List.take_zero, List.drop_succ_cons, List.drop_zero, Act.put, List.setIfInBounds_toArray, List.set_cons_zero, List.set_cons_succ]
  refine wpAny_of_held (S := Kp W2 ob) _ _ _ _ ?_
  refine letter_ (fun w3 => Below W2.heap.size W2 w3) (be_drew (be_refl _)) ?_
  intro W3 hb3
  have JC3 := hide (Kp.of_below (lb := ob) hb3)
  have HB3 := hide hb3
  clear hb3
  refine take_ (i := 1) (v := ?_) rfl (by kernel_rfl) (by kernel_rfl) (by kernel_rfl) (fun _ _ _ h => h) (Or.inl ⟨by rfl, ?_⟩) JC3.out ?_
  rotate_left
  · (intro w5 hSw; have k0 := (hSw.cell (p := ⟨g, 1, none⟩) hgs2 hne).trans c1'; have k1 := (hSw.cell (p := ⟨A, 0, none⟩) hAs hAo).trans d0; have k2 := (hSw.cell (p := ⟨A, 1, none⟩) hAs hAo).trans d1; go_simp; try (with_reducible rfl))
  try simp only [Act.put, List.setIfInBounds_toArray, List.set_cons_zero, List.set_cons_succ]
  refine take_ (i := 2) (v := ?_) rfl (by kernel_rfl) (by kernel_rfl) (by kernel_rfl) (fun _ _ _ h => h) (Or.inl ⟨by rfl, ?_⟩) JC3.out ?_
  rotate_left
  · (intro w5 hSw; have k0 := (hSw.cell (p := ⟨g, 1, none⟩) hgs2 hne).trans c1'; have k1 := (hSw.cell (p := ⟨A, 0, none⟩) hAs hAo).trans d0; have k2 := (hSw.cell (p := ⟨A, 1, none⟩) hAs hAo).trans d1; go_simp; try (with_reducible rfl))
  try simp only [Act.put, List.setIfInBounds_toArray, List.set_cons_zero, List.set_cons_succ]
  refine take_ (i := 3) (v := ?_) rfl (by kernel_rfl) (by kernel_rfl) (by kernel_rfl) (fun _ _ _ h => h) (Or.inl ⟨by rfl, ?_⟩) JC3.out ?_
  rotate_left
  · (intro w5 hSw; have k0 := (hSw.cell (p := ⟨g, 1, none⟩) hgs2 hne).trans c1'; have k1 := (hSw.cell (p := ⟨A, 0, none⟩) hAs hAo).trans d0; have k2 := (hSw.cell (p := ⟨A, 1, none⟩) hAs hAo).trans d1; go_simp; try (with_reducible rfl))
  try simp only [Act.put, List.setIfInBounds_toArray, List.set_cons_zero, List.set_cons_succ]
  refine take_ (i := 4) (v := ?_) rfl (by kernel_rfl) (by kernel_rfl) (by kernel_rfl) (fun _ _ _ h => h) (Or.inl ⟨by rfl, ?_⟩) JC3.out ?_
  rotate_left
  · (intro w5 hSw; have k0 := (hSw.cell (p := ⟨g, 1, none⟩) hgs2 hne).trans c1'; have k1 := (hSw.cell (p := ⟨A, 0, none⟩) hAs hAo).trans d0; have k2 := (hSw.cell (p := ⟨A, 1, none⟩) hAs hAo).trans d1; go_simp; try (with_reducible rfl))
  try simp only [Act.put, List.setIfInBounds_toArray, List.set_cons_zero, List.set_cons_succ]
  refine take_ (i := 5) (v := ?_) rfl (by kernel_rfl) (by kernel_rfl) (by kernel_rfl) (fun _ _ _ h => h) (Or.inl ⟨by rfl, ?_⟩) JC3.out ?_
  rotate_left
  · (intro w5 hSw; have k0 := (hSw.cell (p := ⟨g, 1, none⟩) hgs2 hne).trans c1'; have k1 := (hSw.cell (p := ⟨A, 0, none⟩) hAs hAo).trans d0; have k2 := (hSw.cell (p := ⟨A, 1, none⟩) hAs hAo).trans d1; go_simp; try (with_reducible rfl))
  try simp only [Act.put, List.setIfInBounds_toArray, List.set_cons_zero, List.set_cons_succ]
  refine wpAnyH_ready (rs := [6]) (by kernel_rfl) (by simp) ?_
  refine cons_ rfl (fun K hK => ?_) nil_
  go_simp
  refine hK.out _ _ (Kp.of_below (be_alloc HB3.out HB3.out.size)) (fun _ => ?_)
  try simp only [Act.put, List.setIfInBounds_toArray, List.set_cons_zero, List.set_cons_succ]
  refine letter_ (fun w3 => Below W2.heap.size W2 w3 ∧ w3.heap[W3.heap.size]? = some (.cells (spC (t, n)).toArray 28 (0, 0))) ⟨be_alloc HB3.out HB3.out.size, bs_new rfl⟩ ?_
  rintro W4 ⟨hb4, hx4⟩
  have HB4 := hide hb4
  have hs4 := hb4.size
  clear hK hb4
  generalize W3.heap.size = b2 at *
  refine wpAnyH_ready (rs := [7]) (by kernel_rfl) (by simp) ?_
  refine cons_ rfl (fun K hK => ?_) nil_
  refine step_append_lies _ (by rfl) (.tmp 38) (.tmp 40) _ (by rfl) (g + 1) 28 i0 _ 2 16 Try.underlying31 hi hz0 hz1 hz2 rfl (by omega) v k (flatS od) (by rfl) (HA.out _ HB4.out) _ 1 1 (spC (t, n)) (by rfl) (by rfl) (World.news_of_block (cs := (spC (t, n)).toArray) (t := 28) (fr := (0, 0)) hx4) (by simp [spC, Value.oneCell']) (by omega) (by unfold maxLen; omega) (by omega) (by omega) _ rfl ?_
  intro gg cap1 W5 hown1 hgrow hat hlt1
  rw [HVB.out] at hgrow hat
  have HFP := hide (show Fh g B W lb ob (W5.setCell ⟨g, 1, none⟩ (.slice (some ⟨gg, 0, none⟩) (k + 1) cap1)) lb (some gg) from (Fh.of_below HF0.out).trans ((Fh.of_below HB1.out).trans (Fh.put HG2.out HB4.out hgrow (hat.imp id (fun e => by omega)) 1 _)))
  refine hK.out _ _ (Kp.grown (Kp.of_below HB4.out) hgrow) (fun hq => ?_)
  try simp only [Act.put, List.setIfInBounds_toArray, List.set_cons_zero, List.set_cons_succ]
  have k0 := (hq.cell (p := ⟨g, 1, none⟩) hgs2 hne).trans c1'
  have fz4 := (hq.frozen (p := ⟨g, 1, none⟩) hgs2 hne).trans fz
  rw [HV2.out] at k0
  have hA5 := (hq.1 A hAs hAo).trans HA2.out
  have HPUT := hide (H2'.out.put (s := (t, n)) HWF.out.1 HWF.out.2 HP.out HM2.out HG2.out HB4.out hgrow hown1 HK.out)
  have hA6 : (W5.setCell ⟨g, 1, none⟩ (.slice (some ⟨gg, 0, none⟩) (k + 1) cap1)).heap[A]? = _ := (Below.heap_setCell W5 _ _ A hAg).trans hA5
  refine wpAnyH_done (by kernel_rfl) ?_ _
  dsimp only [TailPost]
  clear hK hq hat HA d0 d1 c1' fz hA5 hown1 hgrow hlt1 hx4
  go_upto_region 7 with fail
  refine wp_letter (fun N => Hi w N g lb cap (some gg) cap1 B (m + 1) evs (od ++ [(t, n)]) (D.put (kl (t, n)) (.lit (.int .i64 (od.length : Int)))) ∧ N.heap[A]? = some (.cells #[.int .i64 t, .int .i64 n] 28 (0, 0)) ∧ Fh g B W lb ob N lb (some gg)) ⟨HPUT.out, hA6, HFP.out⟩ ?_
  rintro N ⟨hN, hAN, hF⟩
  have HFN := hide hF
  clear hF HFP
  clear hA6 HPUT k0 fz4
  obtain ⟨_, hat⟩ := hN.ix.yes (t, n) od.length HWF.out.1 HWF.out.2 (place_append_self HP.out)
  have HLN := hide (show ∀ W' : World, Below N.heap.size N W' → (Instr.lookup 25 (.map (some B)) (Kv (t, n)) false).run Try.prog W' = .ok (.int .i64 (k : Int)) W' from fun W' hb => by
    have := run_look (s := (t, n)) (hN.then_ hb).map HWF.out.1 HWF.out.2 hat
    rw [HK.out] at this
    exact this)
  have hAs := bs_lt hAN
  obtain ⟨d0, d1, _⟩ := cells2 hAN
  obtain ⟨_, _, c2⟩ := hN.c
  have hgsN := bs_lt hN.obj
  have HN := hide hN
  clear hN hAN hat
  refine wp_region_held (S := fun w' => Below N.heap.size N w') (by kernel_rfl) ?_
  have JC7 := hide (show Below N.heap.size N N.drew from be_drew (be_refl _))
  change wpAnyH _ _ _ _ _ _ _ _ N.drew
  generalize N.drew = N0 at *
  refine take_ (i := 0) (v := ?_) rfl (by kernel_rfl) (by kernel_rfl) (by kernel_rfl) (fun _ _ _ h => h) (Or.inl ⟨by rfl, ?_⟩) JC7.out ?_
  rotate_left
  · (intro w5 hSw; have k0 := (hSw.cell (p := ⟨g, 2, none⟩) hgsN).trans c2; have k1 := (hSw.cell (p := ⟨A, 0, none⟩) hAs).trans d0; have k2 := (hSw.cell (p := ⟨A, 1, none⟩) hAs).trans d1; have k3 := HLN.out _ hSw; go_simp; try (with_reducible rfl))
  try simp only [Act.put, List.setIfInBounds_toArray, List.set_cons_zero, List.set_cons_succ]
  refine take_ (i := 1) (v := ?_) rfl (by kernel_rfl) (by kernel_rfl) (by kernel_rfl) (fun _ _ _ h => h) (Or.inl ⟨by rfl, ?_⟩) JC7.out ?_
  rotate_left
  · (intro w5 hSw; have k0 := (hSw.cell (p := ⟨g, 2, none⟩) hgsN).trans c2; have k1 := (hSw.cell (p := ⟨A, 0, none⟩) hAs).trans d0; have k2 := (hSw.cell (p := ⟨A, 1, none⟩) hAs).trans d1; have k3 := HLN.out _ hSw; go_simp; try (with_reducible rfl))
  try simp only [Act.put, List.setIfInBounds_toArray, List.set_cons_zero, List.set_cons_succ]
  refine take_ (i := 2) (v := ?_) rfl (by kernel_rfl) (by kernel_rfl) (by kernel_rfl) (fun _ _ _ h => h) (Or.inl ⟨by rfl, ?_⟩) JC7.out ?_
  rotate_left
  · (intro w5 hSw; have k0 := (hSw.cell (p := ⟨g, 2, none⟩) hgsN).trans c2; have k1 := (hSw.cell (p := ⟨A, 0, none⟩) hAs).trans d0; have k2 := (hSw.cell (p := ⟨A, 1, none⟩) hAs).trans d1; have k3 := HLN.out _ hSw; go_simp; try (with_reducible rfl))
  try simp only [Act.put, List.setIfInBounds_toArray, List.set_cons_zero, List.set_cons_succ]
  refine take_ (i := 3) (v := ?_) rfl (by kernel_rfl) (by kernel_rfl) (by kernel_rfl) (fun _ _ _ h => h) (Or.inl ⟨by rfl, ?_⟩) JC7.out ?_
  rotate_left
  · (intro w5 hSw; have k0 := (hSw.cell (p := ⟨g, 2, none⟩) hgsN).trans c2; have k1 := (hSw.cell (p := ⟨A, 0, none⟩) hAs).trans d0; have k2 := (hSw.cell (p := ⟨A, 1, none⟩) hAs).trans d1; have k3 := HLN.out _ hSw; go_simp; try (with_reducible rfl))
  try simp only [Act.put, List.setIfInBounds_toArray, List.set_cons_zero, List.set_cons_succ]
  refine take_ (i := 4) (v := ?_) rfl (by kernel_rfl) (by kernel_rfl) (by kernel_rfl) (fun _ _ _ h => h) (Or.inl ⟨by rfl, ?_⟩) JC7.out ?_
  rotate_left
  · (intro w5 hSw; have k0 := (hSw.cell (p := ⟨g, 2, none⟩) hgsN).trans c2; have k1 := (hSw.cell (p := ⟨A, 0, none⟩) hAs).trans d0; have k2 := (hSw.cell (p := ⟨A, 1, none⟩) hAs).trans d1; have k3 := HLN.out _ hSw; go_simp; try (with_reducible rfl))
  try simp only [Act.put, List.setIfInBounds_toArray, List.set_cons_zero, List.set_cons_succ]
  refine take_ (i := 5) (v := ?_) rfl (by kernel_rfl) (by kernel_rfl) (by kernel_rfl) (fun _ _ _ h => h) (Or.inl ⟨by rfl, ?_⟩) JC7.out ?_
  rotate_left
  · (intro w5 hSw; have k0 := (hSw.cell (p := ⟨g, 2, none⟩) hgsN).trans c2; have k1 := (hSw.cell (p := ⟨A, 0, none⟩) hAs).trans d0; have k2 := (hSw.cell (p := ⟨A, 1, none⟩) hAs).trans d1; have k3 := HLN.out _ hSw; go_simp; try (with_reducible rfl))
  try simp only [Act.put, List.setIfInBounds_toArray, List.set_cons_zero, List.set_cons_succ]
  refine take_ (i := 6) (v := ?_) rfl (by kernel_rfl) (by kernel_rfl) (by kernel_rfl) (fun _ _ _ h => h) (Or.inl ⟨by rfl, ?_⟩) JC7.out ?_
  rotate_left
  · (intro w5 hSw; have k0 := (hSw.cell (p := ⟨g, 2, none⟩) hgsN).trans c2; have k1 := (hSw.cell (p := ⟨A, 0, none⟩) hAs).trans d0; have k2 := (hSw.cell (p := ⟨A, 1, none⟩) hAs).trans d1; have k3 := HLN.out _ hSw; go_simp; try (with_reducible rfl))
  try simp only [Act.put, List.setIfInBounds_toArray, List.set_cons_zero, List.set_cons_succ]
  refine wpAnyH_done (by kernel_rfl) ?_ _
  go_wp2
  go_ret
  exact ⟨congrArg (fun x : Nat => Ending.returned (Value.int .i64 (x : Int))) HK.out.symm, some gg, cap1, _, HN.out.then_ JC7.out, HFN.out.trans (Fh.of_below JC7.out)⟩
end
end Go.Proofs.Ytkdfdcppeolbjaa.HistStamp


