/- HistOnce: however often an op is stamped it has one place, the first that it had; places go from 0 on, one for each op: for every row of ops, without a condition. -/
import Derived.Test.YtkdfdcppeolbjaaHistAwake
import Derived.Test.YtkdfdcppeolbjaaWWords
import Derived.Test.YtkdfdcppeolbjaaWLast
namespace Go.Proofs.Ytkdfdcppeolbjaa.HistOnceW
open Go Go.RowKit Go.Maps Go.Proofs.YtkdfdcppeolbjaaKit Go.Proofs.Ytkdfdcppeolbjaa.Mem Go.Proofs.Ytkdfdcppeolbjaa.HistBase Go.Proofs.Ytkdfdcppeolbjaa.HistStill Go.Proofs.Ytkdfdcppeolbjaa.HistOps Go.Proofs.Ytkdfdcppeolbjaa.HistRead Go.Proofs.Ytkdfdcppeolbjaa.HistFirst Go.Proofs.Ytkdfdcppeolbjaa.HistStamp Go.Proofs.Ytkdfdcppeolbjaa.HistAwake Go.Proofs.Ytkdfdcppeolbjaa.Split
open Go.Proofs.YtkdfdcppeolbjaaW.PrintWords (ReadsInt rd ReadsInt.ofRow)
attribute [local go_sem] cell_alloc_some cell_alloc2_some cell_alloc3_some cell_alloc4_some
set_option linter.unusedVariables false
set_option linter.unusedSimpArgs false
theorem and3 (n : Int) : 0 ≤ Go.bits .and .i64 n 3 ∧ Go.bits .and .i64 n 3 ≤ 3 := and_range 2 (by omega) n
theorem stamp_again (od : List (Int × Int)) (s : Int × Int) : stampI (stampL od s) s = stampI od s ∧ stampL (stampL od s) s = stampL od s := by
  unfold stampI stampL
  cases hp : place od s with
  | none => simp [place_append_self hp]
  | some k => simp [hp]
theorem stamp_le (od : List (Int × Int)) (s : Int × Int) : (stampL od s).length ≤ od.length + 1 := by
  unfold stampL
  split <;> simp
/-- The law's own map holds each op's place, too. -/
structure Sm (od : List (Int × Int)) (D : Dw) (m : Nat) : Prop where
  ix : Ix od D
  tidy : Tidy D
  size : Maps.size D = od.length
  m : m ≤ od.length
  small : ∀ s ∈ od, 0 ≤ s.1 ∧ s.1 ≤ 3
  nd : ∀ (j : Nat) s, od[j]? = some s → place od s = some j
theorem Sm.nil : Sm [] (.map []) 0 := ⟨Ix.nil, tidy_empty, rfl, Nat.le_refl _, fun s h => by simp at h, fun j s h => by simp at h⟩
theorem Sm.push {od : List (Int × Int)} {D : Dw} {m : Nat} {s : Int × Int} (h : Sm od D m) (h1 : wfI s.1) (h2 : wfI s.2) (h3 : 0 ≤ s.1 ∧ s.1 ≤ 3) (hn : place od s = none) : Sm (od ++ [s]) (D.put (kl s) (.lit (.int .i64 (od.length : Int)))) (m + 1) := by
  refine ⟨h.ix.push h1 h2 hn, h.tidy.put (kl_key h1 h2) _, ?_, by rw [List.length_append]; have := h.m; simp; omega, fun s' hs => ?_, fun j s' hs => ?_⟩
  · rw [size_put h.tidy, h.ix.no s h1 h2 hn, h.size, List.length_append]; simp
  · rcases List.mem_append.1 hs with hs | hs
    · exact h.small s' hs
    · obtain rfl := List.mem_singleton.1 hs
      exact h3
  · rcases Nat.lt_or_ge j od.length with hj | hj
    · rw [List.getElem?_append_left hj] at hs
      exact place_append_old (h.nd j s' hs)
    · rw [List.getElem?_append_right hj] at hs
      have hj0 : j - od.length = 0 := by
        have := (List.getElem?_eq_some_iff.1 hs).1
        simp at this
        omega
      rw [hj0] at hs
      simp at hs
      subst hs
      rw [place_append_self hn, show j = od.length by omega]
/-- A row of ops from a place on. -/
def RowFrom (W : World) (lb : Option Nat) (od : List (Int × Int)) (j : Nat) : Prop := ∀ (k : Nat) s, j ≤ k → od[k]? = some s → ∃ b, lb = some b ∧ W.cell? ⟨b, k * 2, none⟩ = some (.int .i64 s.1) ∧ W.cell? ⟨b, k * 2 + 1, none⟩ = some (.int .i64 s.2) ∧ W.frozen? ⟨b, k * 2, none⟩ = false
theorem RowFrom.of {W : World} {base n cap : Nat} {lb : Option Nat} {od : List (Int × Int)} (h : Own W base 28 2 lb n cap (flatS od)) : RowFrom W lb od 0 := fun k s _ hs => by
  obtain ⟨b, rfl, _, h1, h2⟩ := sp_cells h hs
  obtain ⟨cur, hc⟩ := own_type h
  exact ⟨b, rfl, h1, h2, bs_frozen hc _⟩
theorem RowFrom.set {W : World} {b : Nat} {od : List (Int × Int)} {j : Nat} (h : RowFrom W (some b) od j) (v : Value) : RowFrom (W.setCell ⟨b, j * 2, none⟩ v) (some b) od (j + 1) := fun k s hk hs => by
  obtain ⟨b', e, h1, h2, h3⟩ := h k s (by omega) hs
  cases e
  refine ⟨b, rfl, ?_, ?_, ?_⟩
  · rw [World.cell?_setCell_other W _ _ _ (fun e => by injection e with _ e; omega)]; exact h1
  · rw [World.cell?_setCell_other W _ _ _ (fun e => by injection e with _ e; omega)]; exact h2
  · rw [World.frozen?_setCell]; exact h3
theorem sl_oa (lb : Option Nat) (n cap : Nat) : ∃ oa : Option Addr, oa = lb.map (fun b => ⟨b, 0, none⟩) ∧ sl lb n cap = .slice oa n cap := ⟨_, rfl, rfl⟩
theorem grown_of_turn {E : Nat} {W W' : World} (h : Turn E W W') : W.grownBy W' (some E) := ⟨h.os, h.tape, h.output, Nat.le_of_eq h.size.symm, fun k _ hne => h.block k (fun e => hne (by rw [e]))⟩
set_option maxHeartbeats 16000000 in
set_option maxRecDepth 100000 in
theorem walkR (A : Option Addr) (len c : Nat) (z : List Int) (w : World)
    (h1 : (A = none ∧ len = 0 ∧ c = 0 ∧ z = []) ∨ ∃ x, A = some x ∧ len ≤ c ∧ c ≤ maxLen ∧ z.length = c ∧ (∀ i, i < z.length → w.cell? (x.add i) = some (.int .i64 (z.getD i 0))) ∧ ∀ n ∈ z, (Lit.int .i64 n).wf = true) (y1 : len * 8 ≤ 140737488351232) :
    Calls Try.prog 3 #[.slice A len c] w fun e w' => e = .returned (.bool true) ∧ Below w.heap.size w w' := by
  obtain ⟨l, rfl, hr, _, _⟩ := ReadsInt.ofRow h1
  clear h1 y1
  obtain ⟨L, hL⟩ : ∃ L, L = l.length := ⟨_, rfl⟩
  rw [← hL] at hr ⊢
  have R1 := hide hr
  clear hr hL
  have HN := hide (s_new w)
  have hmm := @run_makeMap Try.prog
  go_enter Try.func3, Try.ntmps3
  go_wp2_with (go_at_call 6; (with_reducible refine HN.out.mono ?_); rintro e W1 ⟨g, rfl, P⟩; have P1 := hide P; clear P)
  refine wp_letter (fun M => Hs w M g [] [] (fun k => k = W1.heap.size) ∧ OwnM M W1.heap.size 0 (.map [])) ⟨P1.out.more (be_alloc (be_refl _) (Nat.le_refl _)) (fun k hk => .inr (by subst hk; exact ⟨Nat.le_refl _, by simp⟩)), World.ownsMap_made _ _ _ _⟩ ?_
  rintro M ⟨hP, hM⟩
  generalize W1.heap.size = Bm at *
  obtain ⟨X, hX⟩ : ∃ X : Nat → Prop, X = fun k => k = Bm := ⟨_, rfl⟩
  rw [← hX] at hP
  have HX := hide hX
  have HP := hide hP
  have HM := hide hM
  clear hX hP hM hmm P1
  go_loopw [5] (fun v5 wr => ∃ (i : Nat) (od : List (Int × Int)) (D : Dw) (m : Nat), i ≤ 60 ∧ v5 = .int .i64 (i : Int) ∧ Hs w wr g [] od X ∧ OwnM wr Bm m D ∧ Sm od D m ∧ od.length ≤ i) (fun v5 _ => (60 - intOf v5).toNat)
  case atStart => exact ⟨0, [], _, 0, by omega, rfl, HP.out, HM.out, Sm.nil, Nat.le_refl _⟩
  case round =>
    obtain ⟨i, od, D, m, hi, rfl, hP, hM, hS, hlo⟩ := hrel
    have P := hide hP
    have OM := hide hM
    have SM := hide hS
    have LO := hide hlo
    clear hP hM hS hlo HP HM
    by_cases hgo : i < L ∧ i < 60
    · have p1 : ((i : Int) < (L : Int)) = True := eq_true (by omega)
      have p1' : (i : Int) < (L : Int) := by omega
      have p2 : ((i : Int) < 60) = True := eq_true (by omega)
      have p0 : (0 : Int) ≤ (i : Int) := by omega
      obtain ⟨ad, rfl, _⟩ := R1.out.at_ (i : Int) (by omega) (by omega)
      have RC := hide (show ∀ W : World, Below w.heap.size w W → W.cell? (ad.add i) = some (.int .i64 (rd l i)) from fun W hb => by
        obtain ⟨ad', e, hc⟩ := (R1.out.below hb).at_ (i : Int) (by omega) (by omega)
        cases e
        simpa using hc)
      obtain ⟨x, hx⟩ : ∃ x, x = rd l i := ⟨_, rfl⟩
      rw [← hx] at RC
      have HG := hide hgo
      have HW := hide (show wrap64 ((i : Int) + 1) = (i : Int) + 1 by unfold wrap64; omega)
      clear hgo hi hx
      go_upto_region 8 with fail
      have HWR := hide P.out.below
      have HSZ := hide P.out.below.size
      refine wp_region_held (S := fun w' => Below wr.heap.size wr w') (by kernel_rfl) ?_
      have JC0 := hide (show Below wr.heap.size wr wr.drew from be_drew (be_refl _))
      change wpAnyH _ _ _ _ _ _ _ _ wr.drew
      generalize wr.drew = W2 at *
      refine take_ (i := 0) (v := ?_) rfl (by kernel_rfl) (by kernel_rfl) (by kernel_rfl) (fun _ _ _ h => h) (Or.inl ⟨by rfl, ?_⟩) JC0.out ?_
      rotate_left
      · (intro w5 hSw; have k0 := RC.out _ (be_call hSw HSZ.out HWR.out); go_simp; try (with_reducible rfl))
      try simp only [Act.put, List.setIfInBounds_toArray, List.set_cons_zero, List.set_cons_succ]
      refine take_ (i := 1) (v := ?_) rfl (by kernel_rfl) (by kernel_rfl) (by kernel_rfl) (fun _ _ _ h => h) (Or.inl ⟨by rfl, ?_⟩) JC0.out ?_
      rotate_left
      · (intro w5 hSw; have k0 := RC.out _ (be_call hSw HSZ.out HWR.out); go_simp; try (with_reducible rfl))
      try simp only [Act.put, List.setIfInBounds_toArray, List.set_cons_zero, List.set_cons_succ]
      refine take_ (i := 2) (v := ?_) rfl (by kernel_rfl) (by kernel_rfl) (by kernel_rfl) (fun _ _ _ h => h) (Or.inl ⟨by rfl, ?_⟩) JC0.out ?_
      rotate_left
      · (intro w5 hSw; have k0 := RC.out _ (be_call hSw HSZ.out HWR.out); go_simp; try (with_reducible rfl))
      try simp only [Act.put, List.setIfInBounds_toArray, List.set_cons_zero, List.set_cons_succ]
      refine take_ (i := 3) (v := ?_) rfl (by kernel_rfl) (by kernel_rfl) (by kernel_rfl) (fun _ _ _ h => h) (Or.inl ⟨by rfl, ?_⟩) JC0.out ?_
      rotate_left
      · (intro w5 hSw; have k0 := RC.out _ (be_call hSw HSZ.out HWR.out); go_simp; try (with_reducible rfl))
      try simp only [Act.put, List.setIfInBounds_toArray, List.set_cons_zero, List.set_cons_succ]
      refine take_ (i := 4) (v := ?_) rfl (by kernel_rfl) (by kernel_rfl) (by kernel_rfl) (fun _ _ _ h => h) (Or.inl ⟨by rfl, ?_⟩) JC0.out ?_
      rotate_left
      · (intro w5 hSw; have k0 := RC.out _ (be_call hSw HSZ.out HWR.out); go_simp; try (with_reducible rfl))
      try simp only [Act.put, List.setIfInBounds_toArray, List.set_cons_zero, List.set_cons_succ]
      refine take_ (i := 5) (v := ?_) rfl (by kernel_rfl) (by kernel_rfl) (by kernel_rfl) (fun _ _ _ h => h) (Or.inl ⟨by rfl, ?_⟩) JC0.out ?_
      rotate_left
      · (intro w5 hSw; have k0 := RC.out _ (be_call hSw HSZ.out HWR.out); go_simp; try (with_reducible rfl))
      try simp only [Act.put, List.setIfInBounds_toArray, List.set_cons_zero, List.set_cons_succ]
      refine take_ (i := 6) (v := ?_) rfl (by kernel_rfl) (by kernel_rfl) (by kernel_rfl) (fun _ _ _ h => h) (Or.inl ⟨by rfl, ?_⟩) JC0.out ?_
      rotate_left
      · (intro w5 hSw; have k0 := RC.out _ (be_call hSw HSZ.out HWR.out); go_simp; try (with_reducible rfl))
      try simp only [Act.put, List.setIfInBounds_toArray, List.set_cons_zero, List.set_cons_succ]
      refine take_ (i := 7) (v := ?_) rfl (by kernel_rfl) (by kernel_rfl) (by kernel_rfl) (fun _ _ _ h => h) (Or.inl ⟨by rfl, ?_⟩) JC0.out ?_
      rotate_left
      · (intro w5 hSw; have k0 := RC.out _ (be_call hSw HSZ.out HWR.out); go_simp; try (with_reducible rfl))
      try simp only [Act.put, List.setIfInBounds_toArray, List.set_cons_zero, List.set_cons_succ]
      refine take_ (i := 8) (v := ?_) rfl (by kernel_rfl) (by kernel_rfl) (by kernel_rfl) (fun _ _ _ h => h) (Or.inl ⟨by rfl, ?_⟩) JC0.out ?_
      rotate_left
      · (intro w5 hSw; have k0 := RC.out _ (be_call hSw HSZ.out HWR.out); go_simp; try (with_reducible rfl))
      try simp only [Act.put, List.setIfInBounds_toArray, List.set_cons_zero, List.set_cons_succ]
      refine take_ (i := 9) (v := ?_) rfl (by kernel_rfl) (by kernel_rfl) (by kernel_rfl) (fun _ _ _ h => h) (Or.inl ⟨by rfl, ?_⟩) JC0.out ?_
      rotate_left
      · (intro w5 hSw; have k0 := RC.out _ (be_call hSw HSZ.out HWR.out); go_simp; try (with_reducible rfl))
      try simp only [Act.put, List.setIfInBounds_toArray, List.set_cons_zero, List.set_cons_succ]
      refine take_ (i := 10) (v := ?_) rfl (by kernel_rfl) (by kernel_rfl) (by kernel_rfl) (fun _ _ _ h => h) (Or.inl ⟨by rfl, ?_⟩) JC0.out ?_
      rotate_left
      · (intro w5 hSw; have k0 := RC.out _ (be_call hSw HSZ.out HWR.out); go_simp; try (with_reducible rfl))
      try simp only [Act.put, List.setIfInBounds_toArray, List.set_cons_zero, List.set_cons_succ]
      refine take_ (i := 11) (v := ?_) rfl (by kernel_rfl) (by kernel_rfl) (by kernel_rfl) (fun _ _ _ h => h) (Or.inl ⟨by rfl, ?_⟩) JC0.out ?_
      rotate_left
      · (intro w5 hSw; have k0 := RC.out _ (be_call hSw HSZ.out HWR.out); go_simp; try (with_reducible rfl))
      try simp only [Act.put, List.setIfInBounds_toArray, List.set_cons_zero, List.set_cons_succ]
      refine wpAnyH_ready (rs := [12]) (by kernel_rfl) (by simp) ?_
      refine cons_ rfl (fun K hK => ?_) nil_
      go_simp
      refine hK.out _ _ (be_alloc JC0.out JC0.out.size) (fun _ => ?_)
      try simp only [Act.put, List.setIfInBounds_toArray, List.set_cons_zero, List.set_cons_succ]
      refine letter_ (fun w3 => Below wr.heap.size wr w3 ∧ w3.heap[W2.heap.size]? = some (.cells #[.int .i64 0, .int .i64 0] 28 (0, 0)) ∧ wr.heap.size ≤ W2.heap.size) ⟨be_alloc JC0.out JC0.out.size, bs_new rfl, JC0.out.size⟩ ?_
      rintro W3 ⟨hB3, hx3, hs3⟩
      clear hK JC0
      generalize W2.heap.size = E at *
      have HB3 := hide hB3
      have HX3 := hide hx3
      have HS3 := hide hs3
      obtain ⟨z0, z1, zf⟩ := cells2 hx3
      clear hB3 hx3 hs3
      refine wpAnyH_ready (rs := [13]) (by kernel_rfl) (by simp) ?_
      refine cons_ rfl (fun K hK => ?_) nil_
      go_simp
      refine hK.out _ _ (be_set (be_set HB3.out HS3.out) HS3.out) (fun _ => ?_)
      try simp only [Act.put, List.setIfInBounds_toArray, List.set_cons_zero, List.set_cons_succ]
      have hT := and3 x
      have hN := and3 (x / 4)
      obtain ⟨T, hTe⟩ : ∃ T, T = Go.bits .and .i64 x 3 := ⟨_, rfl⟩
      obtain ⟨N, hNe⟩ : ∃ N, N = Go.bits .and .i64 (x / 4) 3 := ⟨_, rfl⟩
      rw [← hTe] at hT ⊢
      rw [← hNe] at hN ⊢
      have hwT : wfI T := wf_of (by omega) (by omega)
      have hwN : wfI N := wf_of (by omega) (by omega)
      have HWF := hide (And.intro hwT hwN)
      have HT := hide hT
      refine letter_ (fun w4 => Below wr.heap.size wr w4 ∧ w4.heap[E]? = some (.cells #[.int .i64 T, .int .i64 N] 28 (0, 0))) ⟨be_set (be_set HB3.out HS3.out) HS3.out, bs_same (bs_same HX3.out)⟩ ?_
      rintro W4 ⟨hB4, hx4⟩
      clear hK z0 z1 zf HB3 HX3 hT hN hTe hNe hwT hwN
      refine wpAnyH_done (by kernel_rfl) ?_ _
      have P4 := hide (P.out.then_ hB4)
      have XE := hide (P4.out.more (be_refl _) (Y := fun k => X k) (fun k hk => .inl hk))
      have OM4 := hide (show OwnM W4 Bm m D from ownsMap_of OM.out (hB4.block Bm OM.out.lt))
      have HX4 := hide hx4
      obtain ⟨e0, e1, _⟩ := cells2 hx4
      have PE := hide (show Hs w W4 g [] od (fun k => X k ∨ k = E) from P.out.more hB4 (fun k hk => hk.imp id (fun e => by subst e; exact ⟨HS3.out, bs_lt hx4⟩)))
      have FE := hide (show Bm ≠ E from fun e => by have := OM.out.lt; have := HS3.out; omega)
      clear hB4 hx4 P OM
      cases hp : place od (T, N) with
      | some k =>
        obtain ⟨hh, hat⟩ := SM.out.ix.yes (T, N) k HWF.out.1 HWF.out.2 hp
        have hlk := run_look_ok OM4.out (s := (T, N)) HWF.out.1 HWF.out.2 hat
        rw [hh] at hlk
        have hst : stampI od (T, N) = k := by simp [stampI, hp]
        have hsl : stampL od (T, N) = od := by simp [stampL, hp]
        have ST := hide (fun W (h : Hs w W g [] od (fun k => X k ∨ k = E)) => s_stamp w W g [] od _ h T N HWF.out.1 HWF.out.2 (by have := LO.out; have := HG.out; omega))
        rw [hst, hsl] at ST
        clear hh hat hst hsl hp
        go_wp2_with (first
          | (go_at_call 7; (with_reducible refine (ST.out _ PE.out).mono ?_); rintro e W5 ⟨rfl, P, F⟩; have P5 := hide P; have F5 := hide F; have e0 := (F.cell (i := 0) (.inr rfl)).trans e0; have e1 := (F.cell (i := 1) (.inr rfl)).trans e1; clear P F)
          | (go_at_call 7; (with_reducible refine (ST.out _ P5.out).mono ?_); rintro e W6 ⟨rfl, P, F⟩; have P6 := hide P; have F6 := hide F; clear P F))
        rw [HW.out]
        refine ⟨⟨i + 1, od, D, m, by have := HG.out; omega, by simp, P6.out.sub (fun k hk => .inl hk), ?_, SM.out, by have := LO.out; omega⟩, by simp only [intOf]; have := HG.out; omega⟩
        have hxb : X Bm := by rw [HX.out]
        exact ownsMap_of OM4.out ((F6.out Bm (.inl hxb)).trans (F5.out Bm (.inl hxb)))
      | none =>
        have hh := SM.out.ix.no (T, N) HWF.out.1 HWF.out.2 hp
        have hlk := run_look_ok OM4.out (s := (T, N)) HWF.out.1 HWF.out.2 (atKey_no hh)
        rw [hh] at hlk
        have hlen : (Builtin.len_ #[25] 3 #[.map (some Bm)]).run Try.prog W4 = .ok (.int .i64 (od.length : Int)) W4 := by
          have := OM4.out.len Try.underlying25 3
          rw [SM.out.size] at this
          exact this
        have hst : stampI od (T, N) = od.length := by simp [stampI, hp]
        have hsl : stampL od (T, N) = od ++ [(T, N)] := by simp [stampL, hp]
        have hst2 : stampI (od ++ [(T, N)]) (T, N) = od.length := by simp [stampI, place_append_self hp]
        have hsl2 : stampL (od ++ [(T, N)]) (T, N) = od ++ [(T, N)] := by simp [stampL, place_append_self hp]
        have hlo2 : od.length ≤ 60 := by have := LO.out; have := HG.out; omega
        have ST := hide (fun W (h : Hs w W g [] od (fun k => X k ∨ k = E)) => s_stamp w W g [] od _ h T N HWF.out.1 HWF.out.2 (by omega))
        have ST2 := hide (fun W (h : Hs w W g [] (od ++ [(T, N)]) (fun k => X k ∨ k = E)) => s_stamp w W g [] (od ++ [(T, N)]) _ h T N HWF.out.1 HWF.out.2 (by rw [List.length_append]; simp; omega))
        rw [hst, hsl] at ST
        rw [hst2, hsl2] at ST2
        have HPL := hide hp
        clear hh hst hsl hp hst2 hsl2
        obtain ⟨q, hq⟩ : ∃ q, q = od.length := ⟨_, rfl⟩
        have HQ := hide hq
        rw [← hq] at hlen ST ST2 hlo2
        clear hq
        go_wp2_with (first
          | (at_mapUpdate; refine wpList_mapUpdate_own _ rfl (.tmp 49) (.tmp 50) (.tmp 51) 25 rfl 28 3 lawS Try.underlying25 _ Bm m D rfl OM4.out (by have := SM.out.m; rw [← HQ.out] at this; unfold maxLen; omega) (Kv (T, N)) (.int .i64 (q : Int)) (kl (T, N)) rfl rfl (key_of HWF.out.1 HWF.out.2) _ [] (plainElem_int Try.underlying3 (WalkArith.wf_i64 (by omega))) ?_; intro W5 hm5 hg5; have HM5 := hide hm5; have P5 := hide (PE.out.turn (Y := fun k => X k ∨ k = E) hg5 (fun b e => by cases e; exact .inl (by rw [HX.out])) (fun k hk => .inl hk)); have HE5 := hide ((hg5.block E (bs_lt HX4.out) (fun e => FE.out (by cases e; rfl))).trans HX4.out); clear hm5 hg5 e0 e1; obtain ⟨e0, e1, _⟩ := cells2 HE5.out)
          | (go_at_call 7; (with_reducible refine (ST.out _ P5.out).mono ?_); rintro e W6 ⟨rfl, P, F⟩; have P6 := hide P; have F6 := hide F; have e0 := (F.cell (i := 0) (.inr rfl)).trans e0; have e1 := (F.cell (i := 1) (.inr rfl)).trans e1; clear P F)
          | (go_at_call 7; (with_reducible refine (ST2.out _ P6.out).mono ?_); rintro e W7 ⟨rfl, P, F⟩; have P7 := hide P; have F7 := hide F; clear P F))
        rw [HW.out]
        refine ⟨⟨i + 1, od ++ [(T, N)], D.put (kl (T, N)) (.lit (.int .i64 (q : Int))), m + 1, by have := HG.out; omega, by simp, P7.out.sub (fun k hk => .inl hk), ?_, ?_, by rw [List.length_append]; have := LO.out; simp; omega⟩, by simp only [intOf]; have := HG.out; omega⟩
        · have hxb : X Bm := by rw [HX.out]
          exact ownsMap_of HM5.out ((F7.out Bm (.inl hxb)).trans (F6.out Bm (.inl hxb)))
        · rw [HQ.out]
          exact SM.out.push HWF.out.1 HWF.out.2 HT.out HPL.out
    · have hcase : (((i : Int) < (L : Int)) = False) ∨ (((i : Int) < (L : Int)) = True ∧ ((i : Int) < 60) = False) := by
        by_cases q : (i : Int) < (L : Int)
        · exact .inr ⟨eq_true q, eq_false (fun q3 => hgo ⟨by omega, by omega⟩)⟩
        · exact .inl (eq_false q)
      have hlo2 : od.length ≤ 1000 := by have := LO.out; omega
      clear hgo hi
      have OR := hide (fun W (h : Hs w W g [] od X) => s_order w W g [] od X h (by omega))
      have OR2 := hide (fun W Y (h : Hs w W g [] od Y) => s_order w W g [] od Y h (by omega))
      have EV := hide (fun W Y (h : Hs w W g [] od Y) => s_events w W g [] od Y h (by decide))
      obtain ⟨q, hq⟩ : ∃ q, q = od.length := ⟨_, rfl⟩
      rw [← hq] at OR OR2 hlo2
      have HQ := hide hq
      have XB := hide (show X Bm by rw [HX.out])
      clear hq
      rcases hcase with p1 | ⟨p1, p2⟩
      all_goals
        go_wp2_with (go_at_call 8; (with_reducible refine (OR.out _ P.out).mono ?_); rintro e W2 ⟨lb, cap, rfl, hO, hB⟩; obtain ⟨oa, hoa, hsl⟩ := sl_oa lb q cap; rw [hsl]; have HOA := hide hoa; have O2 := hide hO; have B2 := hide hB; clear hO hB hoa hsl)
        have hlbB : some Bm ≠ lb := fun e => by
          have := (own_ge O2.out Bm e.symm).1
          have := OM.out.lt
          omega
        have P2 := hide (show Hs w W2 g [] od (fun k => X k ∨ some k = lb) from P.out.more B2.out (fun k hk => hk.imp id (fun e => own_ge O2.out k e.symm)))
        have OM2 := hide (show OwnM W2 Bm m D from ownsMap_of OM.out (B2.out.block Bm OM.out.lt))
        have HLB := hide hlbB
        clear hlbB
        go_loopw [10, 74] (fun v10 v74 wq => ∃ j : Nat, j ≤ q ∧ v74 = .int .i64 (j : Int) ∧ W2.grownBy wq lb ∧ RowFrom wq lb od j) (fun v10 v74 _ => (q - intOf v74).toNat)
        case atStart => exact ⟨0, Nat.zero_le _, rfl, ⟨rfl, rfl, rfl, Nat.le_refl _, fun _ _ _ => rfl⟩, RowFrom.of O2.out⟩
        case round =>
          obtain ⟨j, hj, rfl, hg, hrow⟩ := hrel
          have G := hide hg
          have RF := hide hrow
          have OMq := hide (show OwnM wr Bm m D from ownsMap_of OM2.out (hg.block Bm OM2.out.lt HLB.out))
          clear hg hrow
          by_cases hjq : j < q
          · have r1 : ((j : Int) < (q : Int)) = True := eq_true (by omega)
            have r1' : (j : Int) < (q : Int) := by omega
            have r0 : (0 : Int) ≤ (j : Int) := by omega
            obtain ⟨s, hs⟩ : ∃ s, od[j]? = some s := ⟨_, List.getElem?_eq_getElem (by have := HQ.out; omega)⟩
            obtain ⟨b, rfl, x0, x1, fz⟩ := RF.out j s (Nat.le_refl _) hs
            have e1 : oa = some ⟨b, 0, none⟩ := HOA.out
            subst e1
            have hwf := SM.out.ix.wf s (List.mem_of_getElem? hs)
            obtain ⟨_, hat⟩ := SM.out.ix.yes s j hwf.1 hwf.2 (SM.out.nd j s hs)
            have hlk := run_look OMq.out hwf.1 hwf.2 hat
            obtain ⟨T, N⟩ := s
            have HJ := hide hjq
            have HWJ := hide (show wrap64 ((j : Int) + 1) = (j : Int) + 1 by unfold wrap64; omega)
            clear hs hwf hat hjq hj
            go_wp2
            try rw [HWJ.out]
            refine ⟨⟨j + 1, by have := HJ.out; omega, by simp, ?_, RF.out.set _⟩, by simp only [intOf]; have := HJ.out; omega⟩
            exact ⟨G.out.os, G.out.tape, G.out.output, by rw [World.size_setCell]; exact G.out.size, fun k hk hn => (Below.heap_setCell wr _ _ k (fun e => hn (by rw [e]))).trans (G.out.block k hk hn)⟩
          · have r1 : ((j : Int) < (q : Int)) = False := eq_false (by omega)
            have hjq2 : j = q := by omega
            subst hjq2
            have P3 := hide (show Hs w wr g [] od (fun k => X k ∨ some k = lb) from P2.out.turn G.out (fun b e => .inr e.symm) (fun k hk => .inl hk))
            clear hjq hj
            go_wp2_with (go_at_call 8; (with_reducible refine (OR2.out _ _ P3.out).mono ?_); rintro e W5 ⟨lb5, cap5, rfl, hO, hB⟩; obtain ⟨oa5, hoa5, hsl5⟩ := sl_oa lb5 j cap5; rw [hsl5]; have HOA5 := hide hoa5; have O5 := hide hO; have B5 := hide hB; clear hO hB hoa5 hsl5)
            have P5 := hide (P3.out.then_ B5.out)
            have OM5 := hide (show OwnM W5 Bm m D from ownsMap_of OMq.out (B5.out.block Bm OMq.out.lt))
            go_loopw [93] (fun v93 wt => ∃ k : Nat, k ≤ j ∧ v93 = .int .i64 (k : Int) ∧ Below W5.heap.size W5 wt) (fun v93 _ => (j - intOf v93).toNat)
            case atStart => exact ⟨0, Nat.zero_le _, rfl, be_refl _⟩
            case round =>
              obtain ⟨k, hk, rfl, hB⟩ := hrel
              have BK := hide hB
              by_cases hkq : k < j
              · have r1 : ((k : Int) < (j : Int)) = True := eq_true (by omega)
                have r1' : (k : Int) < (j : Int) := by omega
                have r0 : (0 : Int) ≤ (k : Int) := by omega
                obtain ⟨s, hs⟩ : ∃ s, od[k]? = some s := ⟨_, List.getElem?_eq_getElem (by have := HQ.out; omega)⟩
                obtain ⟨b, hb, hbl, x0, x1⟩ := sp_cells O5.out hs
                have e1 : oa5 = some ⟨b, 0, none⟩ := by rw [HOA5.out, hb]; rfl
                subst e1
                have y0 := (hB.cell (p := ⟨b, k * 2, none⟩) hbl).trans x0
                have y1 := (hB.cell (p := ⟨b, k * 2 + 1, none⟩) hbl).trans x1
                have hsm := SM.out.small s (List.mem_of_getElem? hs)
                obtain ⟨T, N⟩ := s
                dsimp only at y0 y1 hsm
                have h99 : (T == 99) = false := by simp; omega
                have h99' : (T = 99) = False := eq_false (by omega)
                have HK := hide hkq
                have HWK := hide (show wrap64 ((k : Int) + 1) = (k : Int) + 1 by unfold wrap64; omega)
                clear hs x0 x1 hsm hkq hk hB hb hbl
                go_wp2
                try rw [HWK.out]
                refine ⟨⟨k + 1, by have := HK.out; omega, by simp, ?_⟩, by simp only [intOf]; have := HK.out; omega⟩
                exact be_alloc BK.out BK.out.size
              · have r1 : ((k : Int) < (j : Int)) = False := eq_false (by omega)
                clear hkq hk
                have OMt : OwnM wr Bm m D := ownsMap_of OM5.out (hB.block Bm OM5.out.lt)
                have PT := hide (P5.out.then_ hB)
                have hlen : (Builtin.len_ #[25] 3 #[.map (some Bm)]).run Try.prog wr = .ok (.int .i64 (j : Int)) wr := by
                  have := OMt.len Try.underlying25 3
                  rw [SM.out.size, ← HQ.out] at this
                  exact this
                clear hB OMt
                go_wp2_with (first
                  | (go_at_call 9; (with_reducible refine (EV.out _ _ PT.out).mono ?_); rintro e W7 ⟨lb7, cap7, rfl, _, hB⟩; obtain ⟨oa7, hoa7, hsl7⟩ := sl_oa lb7 ([] : List Ev).length cap7; rw [hsl7]; clear hoa7 hsl7; have P7 := hide (PT.out.then_ hB); clear hB)
                  | (go_at_call 10; (with_reducible refine (awake_calls _).mono ?_); rintro e W8 ⟨rfl, hb⟩; have Q8 := hide (be_call hb P7.out.below.size P7.out.below); clear hb))
                go_ret
                exact ⟨rfl, Q8.out⟩
end Go.Proofs.Ytkdfdcppeolbjaa.HistOnceW


