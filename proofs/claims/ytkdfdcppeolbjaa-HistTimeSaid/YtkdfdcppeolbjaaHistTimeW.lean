/- HistTime: what was replied ahead of a call stands before it, whatever comes between; nothing stands before itself, nor two before each other: for every order and every row of numbers, without a condition. -/
import Derived.Test.YtkdfdcppeolbjaaHistAwake
import Derived.KernelRfl
import Derived.Test.YtkdfdcppeolbjaaWWords
import Derived.Test.YtkdfdcppeolbjaaWLast
namespace Go.Proofs.Ytkdfdcppeolbjaa.HistTimeW
open Go Go.RowKit Go.Maps Go.Proofs.YtkdfdcppeolbjaaKit Go.Proofs.Ytkdfdcppeolbjaa.Mem Go.Proofs.Ytkdfdcppeolbjaa.HistBase Go.Proofs.Ytkdfdcppeolbjaa.HistStill Go.Proofs.Ytkdfdcppeolbjaa.HistOps Go.Proofs.Ytkdfdcppeolbjaa.HistRead Go.Proofs.Ytkdfdcppeolbjaa.HistFirst Go.Proofs.Ytkdfdcppeolbjaa.HistStamp Go.Proofs.Ytkdfdcppeolbjaa.HistAwake
open Go.Proofs.YtkdfdcppeolbjaaW.PrintWords (ReadsInt rd ReadsInt.ofRow)
attribute [local go_sem] cell_alloc_some cell_alloc2_some cell_alloc3_some cell_alloc4_some
set_option linter.unusedVariables false
set_option linter.unusedSimpArgs false
def tab : List (List Int) := [[0, 1, 2, 3], [0, 2, 1, 3], [0, 2, 3, 1], [2, 0, 1, 3], [2, 0, 3, 1], [2, 3, 0, 1]]
def tabI (k i : Nat) : Int := ((tab[k]?).getD [])[i]?.getD 0
theorem tab_four (k i : Nat) (hk : k < 6) (hi : i < 4) : tabI k i = 0 ∨ tabI k i = 1 ∨ tabI k i = 2 ∨ tabI k i = 3 := by
  match k, i, hk, hi with
  | 0, 0, _, _ => decide
  | 0, 1, _, _ => decide
  | 0, 2, _, _ => decide
  | 0, 3, _, _ => decide
  | 1, 0, _, _ => decide
  | 1, 1, _, _ => decide
  | 1, 2, _, _ => decide
  | 1, 3, _, _ => decide
  | 2, 0, _, _ => decide
  | 2, 1, _, _ => decide
  | 2, 2, _, _ => decide
  | 2, 3, _, _ => decide
  | 3, 0, _, _ => decide
  | 3, 1, _, _ => decide
  | 3, 2, _, _ => decide
  | 3, 3, _, _ => decide
  | 4, 0, _, _ => decide
  | 4, 1, _, _ => decide
  | 4, 2, _, _ => decide
  | 4, 3, _, _ => decide
  | 5, 0, _, _ => decide
  | 5, 1, _, _ => decide
  | 5, 2, _, _ => decide
  | 5, 3, _, _ => decide
def mnT (x : Int) : Ev := if x = 0 then (0, 0, 1, 0) else if x = 1 then (0, 0, 2, 1) else if x = 2 then (1, 0, 1, 0) else (1, 0, 2, 3)
def exT (L : Nat) (c : Nat → Int) (i : Nat) : List Ev := if i < L then [(7, (i : Int), 1, 0), (8, c i, 2, 0)] else []
def evT (L : Nat) (c : Nat → Int) (k : Nat) : Nat → List Ev
  | 0 => []
  | i + 1 => evT L c k i ++ exT L c i ++ [mnT (tabI k i)]
theorem evT_len (L : Nat) (c : Nat → Int) (k : Nat) : ∀ i, (evT L c k i).length ≤ i * 3
  | 0 => Nat.le_refl _
  | i + 1 => by
    have := evT_len L c k i
    unfold evT exT
    split <;> simp <;> omega
/-- What the law tells of the four events, whatever stands between. -/
theorem told (L : Nat) (c : Nat → Int) (k : Nat) (hk : k < 6) : befB (evT L c k 4) 0 0 1 0 = decide (k = 0) ∧ befB (evT L c k 4) 1 0 0 0 = decide (k = 5) ∧ befB (evT L c k 4) 0 0 0 0 = false ∧ befB (evT L c k 4) 1 0 1 0 = false := by
  have key : ∀ (b0 b1 b2 b3 : Bool) (c0 c1 c2 c3 : Int) (k : Nat), k < 6 →
      let ex := fun (b : Bool) (i c : Int) => if b then [((7, i, 1, 0) : Ev), (8, c, 2, 0)] else []
      let l := ((([] ++ ex b0 0 c0 ++ [mnT (tabI k 0)]) ++ ex b1 1 c1 ++ [mnT (tabI k 1)]) ++ ex b2 2 c2 ++ [mnT (tabI k 2)]) ++ ex b3 3 c3 ++ [mnT (tabI k 3)]
      befB l 0 0 1 0 = decide (k = 0) ∧ befB l 1 0 0 0 = decide (k = 5) ∧ befB l 0 0 0 0 = false ∧ befB l 1 0 1 0 = false := by
    intro b0 b1 b2 b3 c0 c1 c2 c3 k hk
    match k, hk with
    | 0, _ => cases b0 <;> cases b1 <;> cases b2 <;> cases b3 <;> exact ⟨by kernel_rfl, by kernel_rfl, by kernel_rfl, by kernel_rfl⟩
    | 1, _ => cases b0 <;> cases b1 <;> cases b2 <;> cases b3 <;> exact ⟨by kernel_rfl, by kernel_rfl, by kernel_rfl, by kernel_rfl⟩
    | 2, _ => cases b0 <;> cases b1 <;> cases b2 <;> cases b3 <;> exact ⟨by kernel_rfl, by kernel_rfl, by kernel_rfl, by kernel_rfl⟩
    | 3, _ => cases b0 <;> cases b1 <;> cases b2 <;> cases b3 <;> exact ⟨by kernel_rfl, by kernel_rfl, by kernel_rfl, by kernel_rfl⟩
    | 4, _ => cases b0 <;> cases b1 <;> cases b2 <;> cases b3 <;> exact ⟨by kernel_rfl, by kernel_rfl, by kernel_rfl, by kernel_rfl⟩
    | 5, _ => cases b0 <;> cases b1 <;> cases b2 <;> cases b3 <;> exact ⟨by kernel_rfl, by kernel_rfl, by kernel_rfl, by kernel_rfl⟩
  have := key (decide (0 < L)) (decide (1 < L)) (decide (2 < L)) (decide (3 < L)) (c 0) (c 1) (c 2) (c 3) k hk
  have he : ∀ i, exT L c i = if decide (i < L) then [((7, (i : Int), 1, 0) : Ev), (8, c i, 2, 0)] else [] := fun i => by unfold exT; simp
  unfold evT
  unfold evT
  unfold evT
  unfold evT
  unfold evT
  simp only [he]
  exact this
theorem and_255 (n : Int) : ∃ K : Nat, (Go.bits .and .i64 n 255).tmod 6 = (K : Int) ∧ K < 6 := by
  have h : 0 ≤ Go.bits .and .i64 n 255 ∧ Go.bits .and .i64 n 255 ≤ 255 := and_range 8 (by omega) n
  rw [Int.tmod_eq_emod_of_nonneg h.1]
  exact ⟨(Go.bits .and .i64 n 255 % 6).toNat, by omega, by omega⟩
set_option maxHeartbeats 16000000 in
set_option maxRecDepth 100000 in
theorem walkR (order : Int) (A : Option Addr) (len c : Nat) (z : List Int) (w : World) (_ : (Lit.int .i64 order).wf = true)
    (h1 : (A = none ∧ len = 0 ∧ c = 0 ∧ z = []) ∨ ∃ x, A = some x ∧ len ≤ c ∧ c ≤ maxLen ∧ z.length = c ∧ (∀ i, i < z.length → w.cell? (x.add i) = some (.int .i64 (z.getD i 0))) ∧ ∀ n ∈ z, (Lit.int .i64 n).wf = true) (y1 : len * 8 ≤ 140737488351232) :
    Calls Try.prog 4 #[.int .i64 order, .slice A len c] w fun e w' => e = .returned (.bool true) ∧ Below w.heap.size w w' := by
  obtain ⟨l, rfl, hr, _, _⟩ := ReadsInt.ofRow h1
  clear h1 y1
  obtain ⟨L, hL⟩ : ∃ L, L = l.length := ⟨_, rfl⟩
  rw [← hL] at hr ⊢
  have R1 := hide hr
  clear hr hL
  obtain ⟨K, hK, hK6⟩ := and_255 order
  have HN := hide (s_new w)
  go_enter Try.func4, Try.ntmps4
  go_upto_region 5 with (go_at_call 6; (with_reducible refine HN.out.mono ?_); rintro e W1 ⟨g, rfl, P⟩; have P1 := hide P; clear P)
  refine wp_letter (fun M => Hs w M g [] [] (fun k => W1.heap.size ≤ k ∧ k < W1.heap.size + 7) ∧ W1.heap.size + 7 ≤ M.heap.size ∧ (∀ k, k < 6 → M.cell? ⟨W1.heap.size + 1 + 1 + 1 + 1 + 1 + 1, k, none⟩ = some (.slice (some ⟨W1.heap.size + k, 0, none⟩) 4 4)) ∧ (∀ k i, k < 6 → i < 4 → M.cell? ⟨W1.heap.size + k, i, none⟩ = some (.int .i64 (tabI k i)))) ?hlet ?_
  case hlet =>
    have hb : ∀ (v0 v1 v2 v3 v4 v5 v6 : Obj), Below W1.heap.size W1 (((((((W1.alloc v0).alloc v1).alloc v2).alloc v3).alloc v4).alloc v5).alloc v6) := fun v0 v1 v2 v3 v4 v5 v6 =>
      be_alloc (be_alloc (be_alloc (be_alloc (be_alloc (be_alloc (be_alloc (be_refl _) (Nat.le_refl _)) (by simp)) (by simp; omega)) (by simp; omega)) (by simp; omega)) (by simp; omega)) (by simp; omega)
    refine ⟨P1.out.more (hb _ _ _ _ _ _ _) (fun k hk => .inr ⟨hk.1, by simp; omega⟩), by simp, fun k hk => ?_, fun k i hk hi => ?_⟩
    · have h6 : ∀ {o : Obj} {W : World}, W.heap.size = W1.heap.size + 6 → (W.alloc o).heap[W1.heap.size + 1 + 1 + 1 + 1 + 1 + 1]? = some o := fun e => bs_new (by rw [e])
      have hb6 := h6 (o := (.cells #[.slice (some ⟨W1.heap.size, 0, none⟩) 4 4, .slice (some ⟨W1.heap.size + 1, 0, none⟩) 4 4, .slice (some ⟨W1.heap.size + 1 + 1, 0, none⟩) 4 4, .slice (some ⟨W1.heap.size + 1 + 1 + 1, 0, none⟩) 4 4, .slice (some ⟨W1.heap.size + 1 + 1 + 1 + 1, 0, none⟩) 4 4, .slice (some ⟨W1.heap.size + 1 + 1 + 1 + 1 + 1, 0, none⟩) 4 4] 22 (0, 0))) (W := ((((((W1.alloc (.cells #[.int .i64 0, .int .i64 1, .int .i64 2, .int .i64 3] 3)).alloc (.cells #[.int .i64 0, .int .i64 2, .int .i64 1, .int .i64 3] 3)).alloc (.cells #[.int .i64 0, .int .i64 2, .int .i64 3, .int .i64 1] 3)).alloc (.cells #[.int .i64 2, .int .i64 0, .int .i64 1, .int .i64 3] 3)).alloc (.cells #[.int .i64 2, .int .i64 0, .int .i64 3, .int .i64 1] 3)).alloc (.cells #[.int .i64 2, .int .i64 3, .int .i64 0, .int .i64 1] 3))) (by simp)
      have hc := bs_cell hb6 k
      refine hc.trans ?_
      match k, hk with
      | 0, _ => rfl
      | 1, _ => rfl
      | 2, _ => rfl
      | 3, _ => rfl
      | 4, _ => rfl
      | 5, _ => rfl
    · match k, hk with
      | 0, _ =>
        refine (bs_cell (bs_alloc (bs_alloc (bs_alloc (bs_alloc (bs_alloc (bs_alloc (bs_new (by simp)))))))) i).trans ?_
        match i, hi with
        | 0, _ => rfl
        | 1, _ => rfl
        | 2, _ => rfl
        | 3, _ => rfl
      | 1, _ =>
        refine (bs_cell (bs_alloc (bs_alloc (bs_alloc (bs_alloc (bs_alloc (bs_new (by simp))))))) i).trans ?_
        match i, hi with
        | 0, _ => rfl
        | 1, _ => rfl
        | 2, _ => rfl
        | 3, _ => rfl
      | 2, _ =>
        refine (bs_cell (bs_alloc (bs_alloc (bs_alloc (bs_alloc (bs_new (by simp)))))) i).trans ?_
        match i, hi with
        | 0, _ => rfl
        | 1, _ => rfl
        | 2, _ => rfl
        | 3, _ => rfl
      | 3, _ =>
        refine (bs_cell (bs_alloc (bs_alloc (bs_alloc (bs_new (by simp))))) i).trans ?_
        match i, hi with
        | 0, _ => rfl
        | 1, _ => rfl
        | 2, _ => rfl
        | 3, _ => rfl
      | 4, _ =>
        refine (bs_cell (bs_alloc (bs_alloc (bs_new (by simp)))) i).trans ?_
        match i, hi with
        | 0, _ => rfl
        | 1, _ => rfl
        | 2, _ => rfl
        | 3, _ => rfl
      | 5, _ =>
        refine (bs_cell (bs_alloc (bs_new (by simp))) i).trans ?_
        match i, hi with
        | 0, _ => rfl
        | 1, _ => rfl
        | 2, _ => rfl
        | 3, _ => rfl
  rintro M ⟨hP, hs, hO, hT⟩
  obtain ⟨S, hS⟩ : ∃ S, S = W1.heap.size := ⟨_, rfl⟩
  rw [← hS] at hs hO hT hP ⊢
  have hoc := hO K hK6
  have HT := hide (fun i => hT K i hK6)
  have HK6 := hide hK6
  have kI : (K : Int) < 6 := by omega
  have kI0 : (0 : Int) ≤ (K : Int) := by omega
  obtain ⟨X, hX⟩ : ∃ X : Nat → Prop, X = fun k => S ≤ k ∧ k < S + 7 := ⟨_, rfl⟩
  rw [← hX] at hP
  have HSK := hide (show X (S + K) by rw [hX]; exact ⟨by omega, by omega⟩)
  clear hX
  have P := hide hP
  clear hO hT hP hS hs P1
  obtain ⟨cc, hcc⟩ : ∃ cc : Nat → Int, cc = fun i : Nat => Go.bits .and .i64 (rd l (i : Int)) 3 := ⟨_, rfl⟩
  have HCC := hide (fun i => congrFun hcc i)
  clear hcc
  go_wp2
  go_loopw [8, 9, 30] (fun v8 v9 v30 wr => ∃ i : Nat, i ≤ 4 ∧ v30 = .int .i64 (i : Int) ∧ Hs w wr g (evT L cc K i) [] X ∧ Keeps X M wr) (fun v8 v9 v30 _ => 4 - (intOf v30).toNat)
  case atStart => exact ⟨0, by omega, rfl, P.out, Keeps.refl _ _⟩
  case round =>
    obtain ⟨i, hi4, rfl, hP, hB⟩ := hrel
    have PR := hide hP
    have BR := hide hB
    clear hP
    have HLE := hide (evT_len L cc K i)
    by_cases hlt : i < 4
    · have p1 : ((i : Int) < 4) = True := eq_true (by omega)
      have p1' : (i : Int) < 4 := by omega
      have p0 : (0 : Int) ≤ (i : Int) := by omega
      obtain ⟨x, hx⟩ : ∃ x, tabI K i = x := ⟨_, rfl⟩
      have xc : wr.cell? ⟨S + K, i, none⟩ = some (.int .i64 x) := by
        have := (hB.cell (i := i) HSK.out).trans (HT.out i hlt)
        rwa [hx] at this
      have hx4 := tab_four K i HK6.out hlt
      rw [hx] at hx4
      have HX := hide hx
      have HI := hide hlt
      have hw : wrap64 ((i : Int) + 1) = (i : Int) + 1 := by unfold wrap64; omega
      have h3 : (evT L cc K i).length ≤ 12 := by have := HLE.out; omega
      have H3 := hide h3
      clear hB hx hlt hi4 h3
      by_cases hl : i < L
      · have q1 : ((i : Int) < (L : Int)) = True := eq_true (by omega)
        obtain ⟨ad, rfl, _⟩ := R1.out.at_ (i : Int) (by omega) (by omega)
        have RC := hide (show ∀ W : World, Below w.heap.size w W → W.cell? (ad.add i) = some (.int .i64 (rd l i)) from fun W hb => by
          obtain ⟨ad', e, hc⟩ := (R1.out.below hb).at_ (i : Int) (by omega) (by omega)
          cases e
          simpa using hc)
        have hce : Go.bits .and .i64 (rd l (i : Int)) 3 = cc i := (HCC.out i).symm
        obtain ⟨y, hy⟩ : ∃ y, y = rd l (i : Int) := ⟨_, rfl⟩
        rw [← hy] at hce RC
        have HL := hide hl
        clear hl hy
        rcases hx4 with rfl | rfl | rfl | rfl
        all_goals
          go_wp2_with (first
            | (go_at_call 11; (with_reducible refine (s_call w wr g _ _ _ PR.out 7 (i : Int) (by have := H3.out; omega)).mono ?_); rintro e W2 ⟨rfl, P, F⟩; have P2 := hide P; have F2 := hide F; have rc2 := RC.out _ P.below; clear P F)
            | (go_at_call 12; (with_reducible refine (s_reply w W2 g _ _ _ P2.out 8 (cc i) 0 (by have := H3.out; simp; omega)).mono ?_); rintro e W3 ⟨rfl, P, F⟩; have P3 := hide P; have F3 := hide F; clear P F)
            | (go_at_call 11; (with_reducible refine (s_call w W3 g _ _ _ P3.out _ _ (by have := H3.out; simp; omega)).mono ?_); rintro e W4 ⟨rfl, P, F⟩; have P4 := hide P; have F4 := hide F; clear P F)
            | (go_at_call 12; (with_reducible refine (s_reply w W3 g _ _ _ P3.out _ _ _ (by have := H3.out; simp; omega)).mono ?_); rintro e W4 ⟨rfl, P, F⟩; have P4 := hide P; have F4 := hide F; clear P F))
          refine ⟨⟨i + 1, by have := HI.out; omega, by simp, ?_, (BR.out.trans F2.out).trans (F3.out.trans F4.out)⟩, by simp only [intOf]; have := HI.out; omega⟩
          have e : evT L cc K (i + 1) = evT L cc K i ++ exT L cc i ++ [mnT (tabI K i)] := rfl
          rw [e, HX.out, show exT L cc i = [(7, (i : Int), 1, 0), (8, cc i, 2, 0)] by unfold exT; rw [if_pos HL.out]]
          have := P4.out
          simpa [mnT] using this
      · have q1 : ((i : Int) < (L : Int)) = False := eq_false (by omega)
        have HL := hide hl
        clear hl
        rcases hx4 with rfl | rfl | rfl | rfl
        all_goals
          go_wp2_with (first
            | (go_at_call 11; (with_reducible refine (s_call w wr g _ _ _ PR.out _ _ (by have := H3.out; omega)).mono ?_); rintro e W4 ⟨rfl, P, F⟩; have P4 := hide P; have F4 := hide F; clear P F)
            | (go_at_call 12; (with_reducible refine (s_reply w wr g _ _ _ PR.out _ _ _ (by have := H3.out; omega)).mono ?_); rintro e W4 ⟨rfl, P, F⟩; have P4 := hide P; have F4 := hide F; clear P F))
          refine ⟨⟨i + 1, by have := HI.out; omega, by simp, ?_, BR.out.trans F4.out⟩, by simp only [intOf]; have := HI.out; omega⟩
          have e : evT L cc K (i + 1) = evT L cc K i ++ exT L cc i ++ [mnT (tabI K i)] := rfl
          rw [e, HX.out, show exT L cc i = [] by unfold exT; rw [if_neg HL.out]]
          have := P4.out
          simpa [mnT] using this
    · have p1 : ((i : Int) < 4) = False := eq_false (by omega)
      have hi : i = 4 := by omega
      subst hi
      clear hB hi4 hlt
      obtain ⟨t1, t2, t3, t4⟩ := told L cc K HK6.out
      have hl12 : (evT L cc K 4).length ≤ 1000000 := by have := HLE.out; omega
      have B1 := hide (fun W (h : Hs w W g (evT L cc K 4) [] X) => s_before w W g _ _ _ h 0 0 1 0 hl12)
      have B2 := hide (fun W (h : Hs w W g (evT L cc K 4) [] X) => s_before w W g _ _ _ h 1 0 0 0 hl12)
      have B3 := hide (fun W (h : Hs w W g (evT L cc K 4) [] X) => s_before w W g _ _ _ h 0 0 0 0 hl12)
      have B4 := hide (fun W (h : Hs w W g (evT L cc K 4) [] X) => s_before w W g _ _ _ h 1 0 1 0 hl12)
      rw [t1] at B1
      rw [t2] at B2
      rw [t3] at B3
      rw [t4] at B4
      have hk := HK6.out
      have hk6 : K = 0 ∨ K = 1 ∨ K = 2 ∨ K = 3 ∨ K = 4 ∨ K = 5 := by omega
      clear t1 t2 t3 t4 hk hl12 hoc hK6 kI kI0
      generalize evT L cc K 4 = evs at *
      rcases hk6 with rfl | rfl | rfl | rfl | rfl | rfl
      all_goals
        go_wp2_with (first
          | (go_at_call 13; (with_reducible refine (B1.out _ PR.out).mono ?_); rintro e W2 ⟨rfl, hb⟩; have Q1 := hide (PR.out.then_ hb); clear hb)
          | (go_at_call 13; (with_reducible refine (B2.out _ Q1.out).mono ?_); rintro e W3 ⟨rfl, hb⟩; have Q2 := hide (Q1.out.then_ hb); clear hb)
          | (go_at_call 13; (with_reducible refine (B3.out _ Q2.out).mono ?_); rintro e W4 ⟨rfl, hb⟩; have Q3 := hide (Q2.out.then_ hb); clear hb)
          | (go_at_call 13; (with_reducible refine (B4.out _ Q3.out).mono ?_); rintro e W5 ⟨rfl, hb⟩; have Q4 := hide (Q3.out.then_ hb); clear hb)
          | (go_at_call 10; (with_reducible refine (awake_calls _).mono ?_); rintro e W6 ⟨rfl, hb⟩; have Q5 := hide (be_call hb Q4.out.below.size Q4.out.below); clear hb))
        go_ret
        exact ⟨rfl, Q5.out⟩
end Go.Proofs.Ytkdfdcppeolbjaa.HistTimeW


