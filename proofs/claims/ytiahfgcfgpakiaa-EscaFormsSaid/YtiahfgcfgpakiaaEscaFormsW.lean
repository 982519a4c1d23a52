/- EscaForms: escapes that ask something, and others that are passed by, are told: for every input, without a condition. -/
import Derived.Test.YtiahfgcfgpakiaaEscaFormsG
import Derived.Test.YtiahfgcfgpakiaaEscaAwake
import Derived.Test.YtiahfgcfgpakiaaEscaManyA
namespace Go.Proofs.Ytiahfgcfgpakiaa.EscaFormsW
open Go Go.RowKit Go.Proofs.YtiahfgcfgpakiaaKit Go.Proofs.Ytiahfgcfgpakiaa.Mem Go.Proofs.YtiahfgcfgpakiaaW.PrintWords Go.Proofs.YtiahfgcfgpakiaaW.PrintLast Go.Proofs.Ytiahfgcfgpakiaa.Split Go.Proofs.Ytiahfgcfgpakiaa.EscaVal Go.Proofs.Ytiahfgcfgpakiaa.Facts Go.Proofs.Ytiahfgcfgpakiaa.EscaFormsM
set_option linter.unusedVariables false
set_option linter.unusedSimpArgs false
theorem feedM (bs : List Int) (hbb : ∀ x ∈ bs, 0 ≤ x ∧ x ≤ 255) (hlen : bs.length ≤ 100000) (n : Nat) (hn : bs.length = n) (l : List Act3) (h : feedP e0 bs = (e0, l)) (k : Nat) (hk : l.length = k) (oa : Option Addr) (cb : Nat) (w : World) (hr : Rd w 0 oa (bs.map (.int .u8))) :
    Calls Try.prog 11 #[.agg #[.int .i64 0, .int .i64 0, .int .i64 0, .int .i64 0, .slice none 0 0, .int .i64 0, .bool false, .bool false], .slice oa n cb] w fun e w' => ∃ (A : Option Addr) (c : Nat) (lb : Option Nat) (cap : Nat) (o : Option Addr) (ds : List ActD), e = .returned (.tuple #[.agg #[.int .i64 0, .int .i64 0, .int .i64 0, .int .i64 0, .slice A 0 c, .int .i64 0, .bool false, .bool false], .slice o k cap]) ∧ sl lb k cap = .slice o k cap ∧ AR w' lb l ds ∧ Below w.heap.size w w' :=
  (feed_zero_at bs hbb hlen n hn e0 l h k hk oa cb w hr).mono fun e w' h2 => by
    obtain ⟨A, c, lb, cap, o, ds, rfl, _, _, ho, ha, hb⟩ := h2
    exact ⟨A, c, lb, cap, o, ds, rfl, ho, ha.ar, hb⟩
theorem pick30 (n : Int) : ∃ K : Nat, Int.tmod (Go.bits .and .i64 n 255) 30 = (K : Int) ∧ K ≤ 29 := by
  have h : 0 ≤ Go.bits .and .i64 n 255 ∧ Go.bits .and .i64 n 255 ≤ 255 := and_range 8 (by omega) n
  rw [Int.tmod_eq_emod_of_nonneg h.1]
  exact ⟨(Go.bits .and .i64 n 255 % 30).toNat, by omega, by omega⟩
set_option maxHeartbeats 8000000 in
set_option maxRecDepth 100000 in
theorem walkR (which : Int) (w : World) (hwh : (Lit.int .i64 which).wf = true) :
    Calls Try.prog 3 #[.int .i64 which] w fun e w' => e = .returned (.bool true) ∧ Below w.heap.size w w' := by
  obtain ⟨K, hK, hK29⟩ := pick30 which
  go_enter Try.func3, Try.ntmps3
  go_upto_region 4 with fail
  refine wp_region_seqk _ G4 (fun W => Below w.heap.size w W) 155 dsts [(3, .func (.func 8) #[] #[]), (4, .func (.func 9) #[] #[]), (5, .func (.func 10) #[] #[])] (by kernel_rfl) (by kernel_rfl) (by kernel_rfl) rfl ?_ (be_refl w) (fun i v w1 w2 _ _ hb h => h.below hb) ?_ ?_
  · intro p hp
    simp only [List.mem_cons, List.not_mem_nil, or_false] at hp
    rcases hp with rfl | rfl | rfl
    · exact ⟨rfl, by kernel_rfl⟩
    · exact ⟨rfl, by kernel_rfl⟩
    · exact ⟨rfl, by kernel_rfl⟩
  · intro i hi o ho a W vs K hBb hall hkeep hK
    match i, hi with
      | 0, _ =>
        cases ho
        have e := hkeep (3, .func (.func 8) #[] #[]) (by simp)
        simp only at e
        unfold Oper.wp
        go_simp
        exact hK _ _ (be_refl _) hBb rfl
      | 1, _ =>
        cases ho
        have h1 := hall 0 10 (by omega) rfl
        have e1 : a.tmps[10]?.getD undef = .func (.func 8) #[] #[] := h1.2.trans h1.1
        clear hall hkeep h1
        go_simp
        (go_at_call 8; refine (p_val _ _).mono ?_; rintro e W9 ⟨rfl, hb9⟩)
        go_wp2_with fail
        exact hK _ W9 hb9 (be_call hb9 hBb.size hBb) ⟨_, _, rfl, Rd.nil _ _ _⟩
      | 2, _ =>
        cases ho
        have h0 := hall 1 11 (by omega) rfl
        obtain ⟨o0, c0, e0, r0⟩ : IsAct (1, 97, []) (vs 1) W := h0.1
        replace e0 : a.tmps[11]?.getD undef = .agg #[.int .i64 1, .int .i32 97, .slice o0 0 c0] := h0.2.trans e0
        clear hall hkeep h0
        unfold Oper.wp
        go_simp
        refine hK _ _ (be_alloc (be_refl _) (Nat.le_refl _)) (be_alloc hBb hBb.size) ⟨some ⟨W.heap.size, 0, none⟩, some W.heap.size, [((1, 97, []), o0, c0)], rfl, rfl, rfl, rd_block (bs_new rfl) rfl, fun d hd => ?_⟩
        simp only [List.mem_cons, List.not_mem_nil, or_false] at hd
        rcases hd with rfl
        · exact r0.below (be_alloc (be_refl _) (Nat.le_refl _))
      | 3, _ =>
        cases ho
        have h1 := hall 2 12 (by omega) rfl
        have f1 : IsActs [(1, 97, [])] (vs 2) W := h1.1
        obtain ⟨o, lb, ds, e1, _⟩ := id f1
        have e2 : a.tmps[12]?.getD undef = .slice o 1 1 := h1.2.trans e1
        rw [e1] at f1
        clear h1
        clear hall hkeep
        unfold Oper.wp
        go_simp
        exact hK _ W (be_refl _) hBb ⟨_, rfl, f1⟩
      | 4, _ =>
        cases ho
        have f1 : IsActs [] (.slice none 0 0) W := ⟨none, none, [], rfl, rfl, rfl, Rd.nil _ _ _, fun d hd => by cases hd⟩
        clear hall hkeep
        unfold Oper.wp
        go_simp
        exact hK _ W (be_refl _) hBb ⟨_, rfl, f1⟩
      | 5, _ =>
        cases ho
        have e := hkeep (5, .func (.func 10) #[] #[]) (by simp)
        simp only at e
        unfold Oper.wp
        go_simp
        exact hK _ _ (be_refl _) hBb rfl
      | 6, _ =>
        cases ho
        have h1 := hall 5 15 (by omega) rfl
        have e1 : a.tmps[15]?.getD undef = .func (.func 10) #[] #[] := h1.2.trans h1.1
        clear hall hkeep h1
        go_simp
        (go_at_call 10; refine (k_val _ _).mono ?_; rintro e W9 ⟨rfl, hb9⟩)
        go_wp2_with fail
        exact hK _ W9 hb9 (be_call hb9 hBb.size hBb) ⟨_, _, rfl, Rd.nil _ _ _⟩
      | 7, _ =>
        cases ho
        have e := hkeep (5, .func (.func 10) #[] #[]) (by simp)
        simp only at e
        unfold Oper.wp
        go_simp
        exact hK _ _ (be_refl _) hBb rfl
      | 8, _ =>
        cases ho
        have h1 := hall 7 17 (by omega) rfl
        have e1 : a.tmps[17]?.getD undef = .func (.func 10) #[] #[] := h1.2.trans h1.1
        clear hall hkeep h1
        go_simp
        (go_at_call 10; refine (k_val _ _).mono ?_; rintro e W9 ⟨rfl, hb9⟩)
        go_wp2_with fail
        exact hK _ W9 hb9 (be_call hb9 hBb.size hBb) ⟨_, _, rfl, Rd.nil _ _ _⟩
      | 9, _ =>
        cases ho
        have e := hkeep (5, .func (.func 10) #[] #[]) (by simp)
        simp only at e
        unfold Oper.wp
        go_simp
        exact hK _ _ (be_refl _) hBb rfl
      | 10, _ =>
        cases ho
        have h1 := hall 9 19 (by omega) rfl
        have e1 : a.tmps[19]?.getD undef = .func (.func 10) #[] #[] := h1.2.trans h1.1
        clear hall hkeep h1
        go_simp
        (go_at_call 10; refine (k_val _ _).mono ?_; rintro e W9 ⟨rfl, hb9⟩)
        go_wp2_with fail
        exact hK _ W9 hb9 (be_call hb9 hBb.size hBb) ⟨_, _, rfl, Rd.nil _ _ _⟩
      | 11, _ =>
        cases ho
        have h0 := hall 6 16 (by omega) rfl
        obtain ⟨o0, c0, e0, r0⟩ : IsAct (2, 7, []) (vs 6) W := h0.1
        replace e0 : a.tmps[16]?.getD undef = .agg #[.int .i64 2, .int .i32 7, .slice o0 0 c0] := h0.2.trans e0
        have h1 := hall 8 18 (by omega) rfl
        obtain ⟨o1, c1, e1, r1⟩ : IsAct (2, 8, []) (vs 8) W := h1.1
        replace e1 : a.tmps[18]?.getD undef = .agg #[.int .i64 2, .int .i32 8, .slice o1 0 c1] := h1.2.trans e1
        have h2 := hall 10 20 (by omega) rfl
        obtain ⟨o2, c2, e2, r2⟩ : IsAct (2, 13, []) (vs 10) W := h2.1
        replace e2 : a.tmps[20]?.getD undef = .agg #[.int .i64 2, .int .i32 13, .slice o2 0 c2] := h2.2.trans e2
        clear hall hkeep h0 h1 h2
        unfold Oper.wp
        go_simp
        refine hK _ _ (be_alloc (be_refl _) (Nat.le_refl _)) (be_alloc hBb hBb.size) ⟨some ⟨W.heap.size, 0, none⟩, some W.heap.size, [((2, 7, []), o0, c0), ((2, 8, []), o1, c1), ((2, 13, []), o2, c2)], rfl, rfl, rfl, rd_block (bs_new rfl) rfl, fun d hd => ?_⟩
        simp only [List.mem_cons, List.not_mem_nil, or_false] at hd
        rcases hd with rfl | rfl | rfl
        · exact r0.below (be_alloc (be_refl _) (Nat.le_refl _))
        · exact r1.below (be_alloc (be_refl _) (Nat.le_refl _))
        · exact r2.below (be_alloc (be_refl _) (Nat.le_refl _))
      | 12, _ =>
        cases ho
        have h1 := hall 11 21 (by omega) rfl
        have f1 : IsActs [(2, 7, []), (2, 8, []), (2, 13, [])] (vs 11) W := h1.1
        obtain ⟨o, lb, ds, e1, _⟩ := id f1
        have e2 : a.tmps[21]?.getD undef = .slice o 3 3 := h1.2.trans e1
        rw [e1] at f1
        clear h1
        clear hall hkeep
        unfold Oper.wp
        go_simp
        exact hK _ W (be_refl _) hBb ⟨_, rfl, f1⟩
      | 13, _ =>
        cases ho
        have e := hkeep (4, .func (.func 9) #[] #[]) (by simp)
        simp only at e
        unfold Oper.wp
        go_simp
        exact hK _ _ (be_refl _) hBb rfl
      | 14, _ =>
        cases ho
        have h1 := hall 13 23 (by omega) rfl
        have e1 : a.tmps[23]?.getD undef = .func (.func 9) #[] #[] := h1.2.trans h1.1
        clear hall hkeep h1
        go_simp
        (go_at_call 9; refine (c_val _ _ _ _ _).mono ?_; rintro e W9 ⟨rfl, hb9⟩)
        go_wp2_with fail
        exact hK _ W9 hb9 (be_call hb9 hBb.size hBb) ⟨_, _, rfl, Rd.nil _ _ _⟩
      | 15, _ =>
        cases ho
        have h0 := hall 14 24 (by omega) rfl
        obtain ⟨o0, c0, e0, r0⟩ : IsAct (4, 65, []) (vs 14) W := h0.1
        replace e0 : a.tmps[24]?.getD undef = .agg #[.int .i64 4, .int .i32 65, .slice o0 0 c0] := h0.2.trans e0
        clear hall hkeep h0
        unfold Oper.wp
        go_simp
        refine hK _ _ (be_alloc (be_refl _) (Nat.le_refl _)) (be_alloc hBb hBb.size) ⟨some ⟨W.heap.size, 0, none⟩, some W.heap.size, [((4, 65, []), o0, c0)], rfl, rfl, rfl, rd_block (bs_new rfl) rfl, fun d hd => ?_⟩
        simp only [List.mem_cons, List.not_mem_nil, or_false] at hd
        rcases hd with rfl
        · exact r0.below (be_alloc (be_refl _) (Nat.le_refl _))
      | 16, _ =>
        cases ho
        have h1 := hall 15 25 (by omega) rfl
        have f1 : IsActs [(4, 65, [])] (vs 15) W := h1.1
        obtain ⟨o, lb, ds, e1, _⟩ := id f1
        have e2 : a.tmps[25]?.getD undef = .slice o 1 1 := h1.2.trans e1
        rw [e1] at f1
        clear h1
        clear hall hkeep
        unfold Oper.wp
        go_simp
        exact hK _ W (be_refl _) hBb ⟨_, rfl, f1⟩
      | 17, _ =>
        cases ho
        have e := hkeep (4, .func (.func 9) #[] #[]) (by simp)
        simp only at e
        unfold Oper.wp
        go_simp
        exact hK _ _ (be_refl _) hBb rfl
      | 18, _ =>
        cases ho
        unfold Oper.wp
        go_simp
        exact hK _ _ (be_alloc (be_refl _) (Nat.le_refl _)) (be_alloc hBb hBb.size) ⟨W.heap.size, rfl, bs_new rfl⟩
      | 19, _ =>
        cases ho
        have h1 := hall 17 27 (by omega) rfl
        have e1 : a.tmps[27]?.getD undef = .func (.func 9) #[] #[] := h1.2.trans h1.1
        have h2 := hall 18 28 (by omega) rfl
        obtain ⟨b, e2, hc⟩ : IsInts [0] (vs 18) W := h2.1
        replace e2 : a.tmps[28]?.getD undef = .slice (some ⟨b, 0, none⟩) 1 1 := h2.2.trans e2
        clear hall hkeep h1 h2
        go_simp
        (go_at_call 9; refine (c_val _ _ _ _ _).mono ?_; rintro e W9 ⟨rfl, hb9⟩)
        go_wp2_with fail
        exact hK _ W9 hb9 (be_call hb9 hBb.size hBb) ⟨_, _, rfl, (rd_block hc rfl).below hb9⟩
      | 20, _ =>
        cases ho
        have h0 := hall 19 29 (by omega) rfl
        obtain ⟨o0, c0, e0, r0⟩ : IsAct (4, 65, [0]) (vs 19) W := h0.1
        replace e0 : a.tmps[29]?.getD undef = .agg #[.int .i64 4, .int .i32 65, .slice o0 1 c0] := h0.2.trans e0
        clear hall hkeep h0
        unfold Oper.wp
        go_simp
        refine hK _ _ (be_alloc (be_refl _) (Nat.le_refl _)) (be_alloc hBb hBb.size) ⟨some ⟨W.heap.size, 0, none⟩, some W.heap.size, [((4, 65, [0]), o0, c0)], rfl, rfl, rfl, rd_block (bs_new rfl) rfl, fun d hd => ?_⟩
        simp only [List.mem_cons, List.not_mem_nil, or_false] at hd
        rcases hd with rfl
        · exact r0.below (be_alloc (be_refl _) (Nat.le_refl _))
      | 21, _ =>
        cases ho
        have h1 := hall 20 30 (by omega) rfl
        have f1 : IsActs [(4, 65, [0])] (vs 20) W := h1.1
        obtain ⟨o, lb, ds, e1, _⟩ := id f1
        have e2 : a.tmps[30]?.getD undef = .slice o 1 1 := h1.2.trans e1
        rw [e1] at f1
        clear h1
        clear hall hkeep
        unfold Oper.wp
        go_simp
        exact hK _ W (be_refl _) hBb ⟨_, rfl, f1⟩
      | 22, _ =>
        cases ho
        have e := hkeep (4, .func (.func 9) #[] #[]) (by simp)
        simp only at e
        unfold Oper.wp
        go_simp
        exact hK _ _ (be_refl _) hBb rfl
      | 23, _ =>
        cases ho
        unfold Oper.wp
        go_simp
        exact hK _ _ (be_alloc (be_refl _) (Nat.le_refl _)) (be_alloc hBb hBb.size) ⟨W.heap.size, rfl, bs_new rfl⟩
      | 24, _ =>
        cases ho
        have h1 := hall 22 32 (by omega) rfl
        have e1 : a.tmps[32]?.getD undef = .func (.func 9) #[] #[] := h1.2.trans h1.1
        have h2 := hall 23 33 (by omega) rfl
        obtain ⟨b, e2, hc⟩ : IsInts [(-1), (-1)] (vs 23) W := h2.1
        replace e2 : a.tmps[33]?.getD undef = .slice (some ⟨b, 0, none⟩) 2 2 := h2.2.trans e2
        clear hall hkeep h1 h2
        go_simp
        (go_at_call 9; refine (c_val _ _ _ _ _).mono ?_; rintro e W9 ⟨rfl, hb9⟩)
        go_wp2_with fail
        exact hK _ W9 hb9 (be_call hb9 hBb.size hBb) ⟨_, _, rfl, (rd_block hc rfl).below hb9⟩
      | 25, _ =>
        cases ho
        have h0 := hall 24 34 (by omega) rfl
        obtain ⟨o0, c0, e0, r0⟩ : IsAct (4, 65, [(-1), (-1)]) (vs 24) W := h0.1
        replace e0 : a.tmps[34]?.getD undef = .agg #[.int .i64 4, .int .i32 65, .slice o0 2 c0] := h0.2.trans e0
        clear hall hkeep h0
        unfold Oper.wp
        go_simp
        refine hK _ _ (be_alloc (be_refl _) (Nat.le_refl _)) (be_alloc hBb hBb.size) ⟨some ⟨W.heap.size, 0, none⟩, some W.heap.size, [((4, 65, [(-1), (-1)]), o0, c0)], rfl, rfl, rfl, rd_block (bs_new rfl) rfl, fun d hd => ?_⟩
        simp only [List.mem_cons, List.not_mem_nil, or_false] at hd
        rcases hd with rfl
        · exact r0.below (be_alloc (be_refl _) (Nat.le_refl _))
      | 26, _ =>
        cases ho
        have h1 := hall 25 35 (by omega) rfl
        have f1 : IsActs [(4, 65, [(-1), (-1)])] (vs 25) W := h1.1
        obtain ⟨o, lb, ds, e1, _⟩ := id f1
        have e2 : a.tmps[35]?.getD undef = .slice o 1 1 := h1.2.trans e1
        rw [e1] at f1
        clear h1
        clear hall hkeep
        unfold Oper.wp
        go_simp
        exact hK _ W (be_refl _) hBb ⟨_, rfl, f1⟩
      | 27, _ =>
        cases ho
        have e := hkeep (4, .func (.func 9) #[] #[]) (by simp)
        simp only at e
        unfold Oper.wp
        go_simp
        exact hK _ _ (be_refl _) hBb rfl
      | 28, _ =>
        cases ho
        unfold Oper.wp
        go_simp
        exact hK _ _ (be_alloc (be_refl _) (Nat.le_refl _)) (be_alloc hBb hBb.size) ⟨W.heap.size, rfl, bs_new rfl⟩
      | 29, _ =>
        cases ho
        have h1 := hall 27 37 (by omega) rfl
        have e1 : a.tmps[37]?.getD undef = .func (.func 9) #[] #[] := h1.2.trans h1.1
        have h2 := hall 28 38 (by omega) rfl
        obtain ⟨b, e2, hc⟩ : IsInts [(-1), (-1), (-1)] (vs 28) W := h2.1
        replace e2 : a.tmps[38]?.getD undef = .slice (some ⟨b, 0, none⟩) 3 3 := h2.2.trans e2
        clear hall hkeep h1 h2
        go_simp
        (go_at_call 9; refine (c_val _ _ _ _ _).mono ?_; rintro e W9 ⟨rfl, hb9⟩)
        go_wp2_with fail
        exact hK _ W9 hb9 (be_call hb9 hBb.size hBb) ⟨_, _, rfl, (rd_block hc rfl).below hb9⟩
      | 30, _ =>
        cases ho
        have h0 := hall 29 39 (by omega) rfl
        obtain ⟨o0, c0, e0, r0⟩ : IsAct (4, 65, [(-1), (-1), (-1)]) (vs 29) W := h0.1
        replace e0 : a.tmps[39]?.getD undef = .agg #[.int .i64 4, .int .i32 65, .slice o0 3 c0] := h0.2.trans e0
        clear hall hkeep h0
        unfold Oper.wp
        go_simp
        refine hK _ _ (be_alloc (be_refl _) (Nat.le_refl _)) (be_alloc hBb hBb.size) ⟨some ⟨W.heap.size, 0, none⟩, some W.heap.size, [((4, 65, [(-1), (-1), (-1)]), o0, c0)], rfl, rfl, rfl, rd_block (bs_new rfl) rfl, fun d hd => ?_⟩
        simp only [List.mem_cons, List.not_mem_nil, or_false] at hd
        rcases hd with rfl
        · exact r0.below (be_alloc (be_refl _) (Nat.le_refl _))
      | 31, _ =>
        cases ho
        have h1 := hall 30 40 (by omega) rfl
        have f1 : IsActs [(4, 65, [(-1), (-1), (-1)])] (vs 30) W := h1.1
        obtain ⟨o, lb, ds, e1, _⟩ := id f1
        have e2 : a.tmps[40]?.getD undef = .slice o 1 1 := h1.2.trans e1
        rw [e1] at f1
        clear h1
        clear hall hkeep
        unfold Oper.wp
        go_simp
        exact hK _ W (be_refl _) hBb ⟨_, rfl, f1⟩
      | 32, _ =>
        cases ho
        have e := hkeep (4, .func (.func 9) #[] #[]) (by simp)
        simp only at e
        unfold Oper.wp
        go_simp
        exact hK _ _ (be_refl _) hBb rfl
      | 33, _ =>
        cases ho
        unfold Oper.wp
        go_simp
        exact hK _ _ (be_alloc (be_refl _) (Nat.le_refl _)) (be_alloc hBb hBb.size) ⟨W.heap.size, rfl, bs_new rfl⟩
      | 34, _ =>
        cases ho
        have h1 := hall 32 42 (by omega) rfl
        have e1 : a.tmps[42]?.getD undef = .func (.func 9) #[] #[] := h1.2.trans h1.1
        have h2 := hall 33 43 (by omega) rfl
        obtain ⟨b, e2, hc⟩ : IsInts [1, (-1)] (vs 33) W := h2.1
        replace e2 : a.tmps[43]?.getD undef = .slice (some ⟨b, 0, none⟩) 2 2 := h2.2.trans e2
        clear hall hkeep h1 h2
        go_simp
        (go_at_call 9; refine (c_val _ _ _ _ _).mono ?_; rintro e W9 ⟨rfl, hb9⟩)
        go_wp2_with fail
        exact hK _ W9 hb9 (be_call hb9 hBb.size hBb) ⟨_, _, rfl, (rd_block hc rfl).below hb9⟩
      | 35, _ =>
        cases ho
        have h0 := hall 34 44 (by omega) rfl
        obtain ⟨o0, c0, e0, r0⟩ : IsAct (4, 65, [1, (-1)]) (vs 34) W := h0.1
        replace e0 : a.tmps[44]?.getD undef = .agg #[.int .i64 4, .int .i32 65, .slice o0 2 c0] := h0.2.trans e0
        clear hall hkeep h0
        unfold Oper.wp
        go_simp
        refine hK _ _ (be_alloc (be_refl _) (Nat.le_refl _)) (be_alloc hBb hBb.size) ⟨some ⟨W.heap.size, 0, none⟩, some W.heap.size, [((4, 65, [1, (-1)]), o0, c0)], rfl, rfl, rfl, rd_block (bs_new rfl) rfl, fun d hd => ?_⟩
        simp only [List.mem_cons, List.not_mem_nil, or_false] at hd
        rcases hd with rfl
        · exact r0.below (be_alloc (be_refl _) (Nat.le_refl _))
      | 36, _ =>
        cases ho
        have h1 := hall 35 45 (by omega) rfl
        have f1 : IsActs [(4, 65, [1, (-1)])] (vs 35) W := h1.1
        obtain ⟨o, lb, ds, e1, _⟩ := id f1
        have e2 : a.tmps[45]?.getD undef = .slice o 1 1 := h1.2.trans e1
        rw [e1] at f1
        clear h1
        clear hall hkeep
        unfold Oper.wp
        go_simp
        exact hK _ W (be_refl _) hBb ⟨_, rfl, f1⟩
      | 37, _ =>
        cases ho
        have e := hkeep (4, .func (.func 9) #[] #[]) (by simp)
        simp only at e
        unfold Oper.wp
        go_simp
        exact hK _ _ (be_refl _) hBb rfl
      | 38, _ =>
        cases ho
        unfold Oper.wp
        go_simp
        exact hK _ _ (be_alloc (be_refl _) (Nat.le_refl _)) (be_alloc hBb hBb.size) ⟨W.heap.size, rfl, bs_new rfl⟩
      | 39, _ =>
        cases ho
        have h1 := hall 37 47 (by omega) rfl
        have e1 : a.tmps[47]?.getD undef = .func (.func 9) #[] #[] := h1.2.trans h1.1
        have h2 := hall 38 48 (by omega) rfl
        obtain ⟨b, e2, hc⟩ : IsInts [1, 2] (vs 38) W := h2.1
        replace e2 : a.tmps[48]?.getD undef = .slice (some ⟨b, 0, none⟩) 2 2 := h2.2.trans e2
        clear hall hkeep h1 h2
        go_simp
        (go_at_call 9; refine (c_val _ _ _ _ _).mono ?_; rintro e W9 ⟨rfl, hb9⟩)
        go_wp2_with fail
        exact hK _ W9 hb9 (be_call hb9 hBb.size hBb) ⟨_, _, rfl, (rd_block hc rfl).below hb9⟩
      | 40, _ =>
        cases ho
        have h0 := hall 39 49 (by omega) rfl
        obtain ⟨o0, c0, e0, r0⟩ : IsAct (4, 65, [1, 2]) (vs 39) W := h0.1
        replace e0 : a.tmps[49]?.getD undef = .agg #[.int .i64 4, .int .i32 65, .slice o0 2 c0] := h0.2.trans e0
        clear hall hkeep h0
        unfold Oper.wp
        go_simp
        refine hK _ _ (be_alloc (be_refl _) (Nat.le_refl _)) (be_alloc hBb hBb.size) ⟨some ⟨W.heap.size, 0, none⟩, some W.heap.size, [((4, 65, [1, 2]), o0, c0)], rfl, rfl, rfl, rd_block (bs_new rfl) rfl, fun d hd => ?_⟩
        simp only [List.mem_cons, List.not_mem_nil, or_false] at hd
        rcases hd with rfl
        · exact r0.below (be_alloc (be_refl _) (Nat.le_refl _))
      | 41, _ =>
        cases ho
        have h1 := hall 40 50 (by omega) rfl
        have f1 : IsActs [(4, 65, [1, 2])] (vs 40) W := h1.1
        obtain ⟨o, lb, ds, e1, _⟩ := id f1
        have e2 : a.tmps[50]?.getD undef = .slice o 1 1 := h1.2.trans e1
        rw [e1] at f1
        clear h1
        clear hall hkeep
        unfold Oper.wp
        go_simp
        exact hK _ W (be_refl _) hBb ⟨_, rfl, f1⟩
      | 42, _ =>
        cases ho
        have e := hkeep (4, .func (.func 9) #[] #[]) (by simp)
        simp only at e
        unfold Oper.wp
        go_simp
        exact hK _ _ (be_refl _) hBb rfl
      | 43, _ =>
        cases ho
        unfold Oper.wp
        go_simp
        exact hK _ _ (be_alloc (be_refl _) (Nat.le_refl _)) (be_alloc hBb hBb.size) ⟨W.heap.size, rfl, bs_new rfl⟩
      | 44, _ =>
        cases ho
        have h1 := hall 42 52 (by omega) rfl
        have e1 : a.tmps[52]?.getD undef = .func (.func 9) #[] #[] := h1.2.trans h1.1
        have h2 := hall 43 53 (by omega) rfl
        obtain ⟨b, e2, hc⟩ : IsInts [65535] (vs 43) W := h2.1
        replace e2 : a.tmps[53]?.getD undef = .slice (some ⟨b, 0, none⟩) 1 1 := h2.2.trans e2
        clear hall hkeep h1 h2
        go_simp
        (go_at_call 9; refine (c_val _ _ _ _ _).mono ?_; rintro e W9 ⟨rfl, hb9⟩)
        go_wp2_with fail
        exact hK _ W9 hb9 (be_call hb9 hBb.size hBb) ⟨_, _, rfl, (rd_block hc rfl).below hb9⟩
      | 45, _ =>
        cases ho
        have h0 := hall 44 54 (by omega) rfl
        obtain ⟨o0, c0, e0, r0⟩ : IsAct (4, 65, [65535]) (vs 44) W := h0.1
        replace e0 : a.tmps[54]?.getD undef = .agg #[.int .i64 4, .int .i32 65, .slice o0 1 c0] := h0.2.trans e0
        clear hall hkeep h0
        unfold Oper.wp
        go_simp
        refine hK _ _ (be_alloc (be_refl _) (Nat.le_refl _)) (be_alloc hBb hBb.size) ⟨some ⟨W.heap.size, 0, none⟩, some W.heap.size, [((4, 65, [65535]), o0, c0)], rfl, rfl, rfl, rd_block (bs_new rfl) rfl, fun d hd => ?_⟩
        simp only [List.mem_cons, List.not_mem_nil, or_false] at hd
        rcases hd with rfl
        · exact r0.below (be_alloc (be_refl _) (Nat.le_refl _))
      | 46, _ =>
        cases ho
        have h1 := hall 45 55 (by omega) rfl
        have f1 : IsActs [(4, 65, [65535])] (vs 45) W := h1.1
        obtain ⟨o, lb, ds, e1, _⟩ := id f1
        have e2 : a.tmps[55]?.getD undef = .slice o 1 1 := h1.2.trans e1
        rw [e1] at f1
        clear h1
        clear hall hkeep
        unfold Oper.wp
        go_simp
        exact hK _ W (be_refl _) hBb ⟨_, rfl, f1⟩
      | 47, _ =>
        cases ho
        have f1 : IsActs [] (.slice none 0 0) W := ⟨none, none, [], rfl, rfl, rfl, Rd.nil _ _ _, fun d hd => by cases hd⟩
        clear hall hkeep
        unfold Oper.wp
        go_simp
        exact hK _ W (be_refl _) hBb ⟨_, rfl, f1⟩
      | 48, _ =>
        cases ho
        have f1 : IsActs [] (.slice none 0 0) W := ⟨none, none, [], rfl, rfl, rfl, Rd.nil _ _ _, fun d hd => by cases hd⟩
        clear hall hkeep
        unfold Oper.wp
        go_simp
        exact hK _ W (be_refl _) hBb ⟨_, rfl, f1⟩
      | 49, _ =>
        cases ho
        have f1 : IsActs [] (.slice none 0 0) W := ⟨none, none, [], rfl, rfl, rfl, Rd.nil _ _ _, fun d hd => by cases hd⟩
        clear hall hkeep
        unfold Oper.wp
        go_simp
        exact hK _ W (be_refl _) hBb ⟨_, rfl, f1⟩
      | 50, _ =>
        cases ho
        clear hall hkeep
        unfold Oper.wp
        go_simp
        exact hK _ W (be_refl _) hBb ⟨_, _, rfl, Rd.nil _ _ _⟩
      | 51, _ =>
        cases ho
        have h0 := hall 50 60 (by omega) rfl
        obtain ⟨o0, c0, e0, r0⟩ : IsAct (5, 65, []) (vs 50) W := h0.1
        replace e0 : a.tmps[60]?.getD undef = .agg #[.int .i64 5, .int .i32 65, .slice o0 0 c0] := h0.2.trans e0
        clear hall hkeep h0
        unfold Oper.wp
        go_simp
        refine hK _ _ (be_alloc (be_refl _) (Nat.le_refl _)) (be_alloc hBb hBb.size) ⟨some ⟨W.heap.size, 0, none⟩, some W.heap.size, [((5, 65, []), o0, c0)], rfl, rfl, rfl, rd_block (bs_new rfl) rfl, fun d hd => ?_⟩
        simp only [List.mem_cons, List.not_mem_nil, or_false] at hd
        rcases hd with rfl
        · exact r0.below (be_alloc (be_refl _) (Nat.le_refl _))
      | 52, _ =>
        cases ho
        have h1 := hall 51 61 (by omega) rfl
        have f1 : IsActs [(5, 65, [])] (vs 51) W := h1.1
        obtain ⟨o, lb, ds, e1, _⟩ := id f1
        have e2 : a.tmps[61]?.getD undef = .slice o 1 1 := h1.2.trans e1
        rw [e1] at f1
        clear h1
        clear hall hkeep
        unfold Oper.wp
        go_simp
        exact hK _ W (be_refl _) hBb ⟨_, rfl, f1⟩
      | 53, _ =>
        cases ho
        unfold Oper.wp
        go_simp
        exact hK _ _ (be_alloc (be_refl _) (Nat.le_refl _)) (be_alloc hBb hBb.size) ⟨W.heap.size, rfl, bs_new rfl⟩
      | 54, _ =>
        cases ho
        have h2 := hall 53 63 (by omega) rfl
        obtain ⟨b, e2, hc⟩ : IsInts [1, 2] (vs 53) W := h2.1
        replace e2 : a.tmps[63]?.getD undef = .slice (some ⟨b, 0, none⟩) 2 2 := h2.2.trans e2
        clear hall hkeep h2
        unfold Oper.wp
        go_simp
        exact hK _ W (be_refl _) hBb ⟨_, _, rfl, rd_block hc rfl⟩
      | 55, _ =>
        cases ho
        have h0 := hall 54 64 (by omega) rfl
        obtain ⟨o0, c0, e0, r0⟩ : IsAct (5, 104, [1, 2]) (vs 54) W := h0.1
        replace e0 : a.tmps[64]?.getD undef = .agg #[.int .i64 5, .int .i32 104, .slice o0 2 c0] := h0.2.trans e0
        clear hall hkeep h0
        unfold Oper.wp
        go_simp
        refine hK _ _ (be_alloc (be_refl _) (Nat.le_refl _)) (be_alloc hBb hBb.size) ⟨some ⟨W.heap.size, 0, none⟩, some W.heap.size, [((5, 104, [1, 2]), o0, c0)], rfl, rfl, rfl, rd_block (bs_new rfl) rfl, fun d hd => ?_⟩
        simp only [List.mem_cons, List.not_mem_nil, or_false] at hd
        rcases hd with rfl
        · exact r0.below (be_alloc (be_refl _) (Nat.le_refl _))
      | 56, _ =>
        cases ho
        have h1 := hall 55 65 (by omega) rfl
        have f1 : IsActs [(5, 104, [1, 2])] (vs 55) W := h1.1
        obtain ⟨o, lb, ds, e1, _⟩ := id f1
        have e2 : a.tmps[65]?.getD undef = .slice o 1 1 := h1.2.trans e1
        rw [e1] at f1
        clear h1
        clear hall hkeep
        unfold Oper.wp
        go_simp
        exact hK _ W (be_refl _) hBb ⟨_, rfl, f1⟩
      | 57, _ =>
        cases ho
        have f1 : IsActs [] (.slice none 0 0) W := ⟨none, none, [], rfl, rfl, rfl, Rd.nil _ _ _, fun d hd => by cases hd⟩
        clear hall hkeep
        unfold Oper.wp
        go_simp
        exact hK _ W (be_refl _) hBb ⟨_, rfl, f1⟩
      | 58, _ =>
        cases ho
        have e := hkeep (5, .func (.func 10) #[] #[]) (by simp)
        simp only at e
        unfold Oper.wp
        go_simp
        exact hK _ _ (be_refl _) hBb rfl
      | 59, _ =>
        cases ho
        have h1 := hall 58 68 (by omega) rfl
        have e1 : a.tmps[68]?.getD undef = .func (.func 10) #[] #[] := h1.2.trans h1.1
        clear hall hkeep h1
        go_simp
        (go_at_call 10; refine (k_val _ _).mono ?_; rintro e W9 ⟨rfl, hb9⟩)
        go_wp2_with fail
        exact hK _ W9 hb9 (be_call hb9 hBb.size hBb) ⟨_, _, rfl, Rd.nil _ _ _⟩
      | 60, _ =>
        cases ho
        have e := hkeep (4, .func (.func 9) #[] #[]) (by simp)
        simp only at e
        unfold Oper.wp
        go_simp
        exact hK _ _ (be_refl _) hBb rfl
      | 61, _ =>
        cases ho
        unfold Oper.wp
        go_simp
        exact hK _ _ (be_alloc (be_refl _) (Nat.le_refl _)) (be_alloc hBb hBb.size) ⟨W.heap.size, rfl, bs_new rfl⟩
      | 62, _ =>
        cases ho
        have h1 := hall 60 70 (by omega) rfl
        have e1 : a.tmps[70]?.getD undef = .func (.func 9) #[] #[] := h1.2.trans h1.1
        have h2 := hall 61 71 (by omega) rfl
        obtain ⟨b, e2, hc⟩ : IsInts [1] (vs 61) W := h2.1
        replace e2 : a.tmps[71]?.getD undef = .slice (some ⟨b, 0, none⟩) 1 1 := h2.2.trans e2
        clear hall hkeep h1 h2
        go_simp
        (go_at_call 9; refine (c_val _ _ _ _ _).mono ?_; rintro e W9 ⟨rfl, hb9⟩)
        go_wp2_with fail
        exact hK _ W9 hb9 (be_call hb9 hBb.size hBb) ⟨_, _, rfl, (rd_block hc rfl).below hb9⟩
      | 63, _ =>
        cases ho
        have h0 := hall 59 69 (by omega) rfl
        obtain ⟨o0, c0, e0, r0⟩ : IsAct (2, 8, []) (vs 59) W := h0.1
        replace e0 : a.tmps[69]?.getD undef = .agg #[.int .i64 2, .int .i32 8, .slice o0 0 c0] := h0.2.trans e0
        have h1 := hall 62 72 (by omega) rfl
        obtain ⟨o1, c1, e1, r1⟩ : IsAct (4, 65, [1]) (vs 62) W := h1.1
        replace e1 : a.tmps[72]?.getD undef = .agg #[.int .i64 4, .int .i32 65, .slice o1 1 c1] := h1.2.trans e1
        clear hall hkeep h0 h1
        unfold Oper.wp
        go_simp
        refine hK _ _ (be_alloc (be_refl _) (Nat.le_refl _)) (be_alloc hBb hBb.size) ⟨some ⟨W.heap.size, 0, none⟩, some W.heap.size, [((2, 8, []), o0, c0), ((4, 65, [1]), o1, c1)], rfl, rfl, rfl, rd_block (bs_new rfl) rfl, fun d hd => ?_⟩
        simp only [List.mem_cons, List.not_mem_nil, or_false] at hd
        rcases hd with rfl | rfl
        · exact r0.below (be_alloc (be_refl _) (Nat.le_refl _))
        · exact r1.below (be_alloc (be_refl _) (Nat.le_refl _))
      | 64, _ =>
        cases ho
        have h1 := hall 63 73 (by omega) rfl
        have f1 : IsActs [(2, 8, []), (4, 65, [1])] (vs 63) W := h1.1
        obtain ⟨o, lb, ds, e1, _⟩ := id f1
        have e2 : a.tmps[73]?.getD undef = .slice o 2 2 := h1.2.trans e1
        rw [e1] at f1
        clear h1
        clear hall hkeep
        unfold Oper.wp
        go_simp
        exact hK _ W (be_refl _) hBb ⟨_, rfl, f1⟩
      | 65, _ =>
        cases ho
        have e := hkeep (3, .func (.func 8) #[] #[]) (by simp)
        simp only at e
        unfold Oper.wp
        go_simp
        exact hK _ _ (be_refl _) hBb rfl
      | 66, _ =>
        cases ho
        have h1 := hall 65 75 (by omega) rfl
        have e1 : a.tmps[75]?.getD undef = .func (.func 8) #[] #[] := h1.2.trans h1.1
        clear hall hkeep h1
        go_simp
        (go_at_call 8; refine (p_val _ _).mono ?_; rintro e W9 ⟨rfl, hb9⟩)
        go_wp2_with fail
        exact hK _ W9 hb9 (be_call hb9 hBb.size hBb) ⟨_, _, rfl, Rd.nil _ _ _⟩
      | 67, _ =>
        cases ho
        have h0 := hall 66 76 (by omega) rfl
        obtain ⟨o0, c0, e0, r0⟩ : IsAct (1, 65, []) (vs 66) W := h0.1
        replace e0 : a.tmps[76]?.getD undef = .agg #[.int .i64 1, .int .i32 65, .slice o0 0 c0] := h0.2.trans e0
        clear hall hkeep h0
        unfold Oper.wp
        go_simp
        refine hK _ _ (be_alloc (be_refl _) (Nat.le_refl _)) (be_alloc hBb hBb.size) ⟨some ⟨W.heap.size, 0, none⟩, some W.heap.size, [((1, 65, []), o0, c0)], rfl, rfl, rfl, rd_block (bs_new rfl) rfl, fun d hd => ?_⟩
        simp only [List.mem_cons, List.not_mem_nil, or_false] at hd
        rcases hd with rfl
        · exact r0.below (be_alloc (be_refl _) (Nat.le_refl _))
      | 68, _ =>
        cases ho
        have h1 := hall 67 77 (by omega) rfl
        have f1 : IsActs [(1, 65, [])] (vs 67) W := h1.1
        obtain ⟨o, lb, ds, e1, _⟩ := id f1
        have e2 : a.tmps[77]?.getD undef = .slice o 1 1 := h1.2.trans e1
        rw [e1] at f1
        clear h1
        clear hall hkeep
        unfold Oper.wp
        go_simp
        exact hK _ W (be_refl _) hBb ⟨_, rfl, f1⟩
      | 69, _ =>
        cases ho
        have e := hkeep (4, .func (.func 9) #[] #[]) (by simp)
        simp only at e
        unfold Oper.wp
        go_simp
        exact hK _ _ (be_refl _) hBb rfl
      | 70, _ =>
        cases ho
        unfold Oper.wp
        go_simp
        exact hK _ _ (be_alloc (be_refl _) (Nat.le_refl _)) (be_alloc hBb hBb.size) ⟨W.heap.size, rfl, bs_new rfl⟩
      | 71, _ =>
        cases ho
        have h1 := hall 69 79 (by omega) rfl
        have e1 : a.tmps[79]?.getD undef = .func (.func 9) #[] #[] := h1.2.trans h1.1
        have h2 := hall 70 80 (by omega) rfl
        obtain ⟨b, e2, hc⟩ : IsInts [2] (vs 70) W := h2.1
        replace e2 : a.tmps[80]?.getD undef = .slice (some ⟨b, 0, none⟩) 1 1 := h2.2.trans e2
        clear hall hkeep h1 h2
        go_simp
        (go_at_call 9; refine (c_val _ _ _ _ _).mono ?_; rintro e W9 ⟨rfl, hb9⟩)
        go_wp2_with fail
        exact hK _ W9 hb9 (be_call hb9 hBb.size hBb) ⟨_, _, rfl, (rd_block hc rfl).below hb9⟩
      | 72, _ =>
        cases ho
        have h0 := hall 71 81 (by omega) rfl
        obtain ⟨o0, c0, e0, r0⟩ : IsAct (4, 65, [2]) (vs 71) W := h0.1
        replace e0 : a.tmps[81]?.getD undef = .agg #[.int .i64 4, .int .i32 65, .slice o0 1 c0] := h0.2.trans e0
        clear hall hkeep h0
        unfold Oper.wp
        go_simp
        refine hK _ _ (be_alloc (be_refl _) (Nat.le_refl _)) (be_alloc hBb hBb.size) ⟨some ⟨W.heap.size, 0, none⟩, some W.heap.size, [((4, 65, [2]), o0, c0)], rfl, rfl, rfl, rd_block (bs_new rfl) rfl, fun d hd => ?_⟩
        simp only [List.mem_cons, List.not_mem_nil, or_false] at hd
        rcases hd with rfl
        · exact r0.below (be_alloc (be_refl _) (Nat.le_refl _))
      | 73, _ =>
        cases ho
        have h1 := hall 72 82 (by omega) rfl
        have f1 : IsActs [(4, 65, [2])] (vs 72) W := h1.1
        obtain ⟨o, lb, ds, e1, _⟩ := id f1
        have e2 : a.tmps[82]?.getD undef = .slice o 1 1 := h1.2.trans e1
        rw [e1] at f1
        clear h1
        clear hall hkeep
        unfold Oper.wp
        go_simp
        exact hK _ W (be_refl _) hBb ⟨_, rfl, f1⟩
      | 74, _ =>
        cases ho
        clear hall hkeep
        unfold Oper.wp
        go_simp
        exact hK _ W (be_refl _) hBb ⟨_, _, rfl, Rd.nil _ _ _⟩
      | 75, _ =>
        cases ho
        have h0 := hall 74 84 (by omega) rfl
        obtain ⟨o0, c0, e0, r0⟩ : IsAct (3, 55, []) (vs 74) W := h0.1
        replace e0 : a.tmps[84]?.getD undef = .agg #[.int .i64 3, .int .i32 55, .slice o0 0 c0] := h0.2.trans e0
        clear hall hkeep h0
        unfold Oper.wp
        go_simp
        refine hK _ _ (be_alloc (be_refl _) (Nat.le_refl _)) (be_alloc hBb hBb.size) ⟨some ⟨W.heap.size, 0, none⟩, some W.heap.size, [((3, 55, []), o0, c0)], rfl, rfl, rfl, rd_block (bs_new rfl) rfl, fun d hd => ?_⟩
        simp only [List.mem_cons, List.not_mem_nil, or_false] at hd
        rcases hd with rfl
        · exact r0.below (be_alloc (be_refl _) (Nat.le_refl _))
      | 76, _ =>
        cases ho
        have h1 := hall 75 85 (by omega) rfl
        have f1 : IsActs [(3, 55, [])] (vs 75) W := h1.1
        obtain ⟨o, lb, ds, e1, _⟩ := id f1
        have e2 : a.tmps[85]?.getD undef = .slice o 1 1 := h1.2.trans e1
        rw [e1] at f1
        clear h1
        clear hall hkeep
        unfold Oper.wp
        go_simp
        exact hK _ W (be_refl _) hBb ⟨_, rfl, f1⟩
      | 77, _ =>
        cases ho
        have e := hkeep (3, .func (.func 8) #[] #[]) (by simp)
        simp only at e
        unfold Oper.wp
        go_simp
        exact hK _ _ (be_refl _) hBb rfl
      | 78, _ =>
        cases ho
        have h1 := hall 77 87 (by omega) rfl
        have e1 : a.tmps[87]?.getD undef = .func (.func 8) #[] #[] := h1.2.trans h1.1
        clear hall hkeep h1
        go_simp
        (go_at_call 8; refine (p_val _ _).mono ?_; rintro e W9 ⟨rfl, hb9⟩)
        go_wp2_with fail
        exact hK _ W9 hb9 (be_call hb9 hBb.size hBb) ⟨_, _, rfl, Rd.nil _ _ _⟩
      | 79, _ =>
        cases ho
        have h0 := hall 78 88 (by omega) rfl
        obtain ⟨o0, c0, e0, r0⟩ : IsAct (1, 97, []) (vs 78) W := h0.1
        replace e0 : a.tmps[88]?.getD undef = .agg #[.int .i64 1, .int .i32 97, .slice o0 0 c0] := h0.2.trans e0
        clear hall hkeep h0
        unfold Oper.wp
        go_simp
        refine hK _ _ (be_alloc (be_refl _) (Nat.le_refl _)) (be_alloc hBb hBb.size) ⟨some ⟨W.heap.size, 0, none⟩, some W.heap.size, [((1, 97, []), o0, c0)], rfl, rfl, rfl, rd_block (bs_new rfl) rfl, fun d hd => ?_⟩
        simp only [List.mem_cons, List.not_mem_nil, or_false] at hd
        rcases hd with rfl
        · exact r0.below (be_alloc (be_refl _) (Nat.le_refl _))
      | 80, _ =>
        cases ho
        have h1 := hall 79 89 (by omega) rfl
        have f1 : IsActs [(1, 97, [])] (vs 79) W := h1.1
        obtain ⟨o, lb, ds, e1, _⟩ := id f1
        have e2 : a.tmps[89]?.getD undef = .slice o 1 1 := h1.2.trans e1
        rw [e1] at f1
        clear h1
        clear hall hkeep
        unfold Oper.wp
        go_simp
        exact hK _ W (be_refl _) hBb ⟨_, rfl, f1⟩
      | 81, _ =>
        cases ho
        have e := hkeep (5, .func (.func 10) #[] #[]) (by simp)
        simp only at e
        unfold Oper.wp
        go_simp
        exact hK _ _ (be_refl _) hBb rfl
      | 82, _ =>
        cases ho
        have h1 := hall 81 91 (by omega) rfl
        have e1 : a.tmps[91]?.getD undef = .func (.func 10) #[] #[] := h1.2.trans h1.1
        clear hall hkeep h1
        go_simp
        (go_at_call 10; refine (k_val _ _).mono ?_; rintro e W9 ⟨rfl, hb9⟩)
        go_wp2_with fail
        exact hK _ W9 hb9 (be_call hb9 hBb.size hBb) ⟨_, _, rfl, Rd.nil _ _ _⟩
      | 83, _ =>
        cases ho
        clear hall hkeep
        unfold Oper.wp
        go_simp
        exact hK _ W (be_refl _) hBb ⟨_, _, rfl, Rd.nil _ _ _⟩
      | 84, _ =>
        cases ho
        have h0 := hall 82 92 (by omega) rfl
        obtain ⟨o0, c0, e0, r0⟩ : IsAct (2, 7, []) (vs 82) W := h0.1
        replace e0 : a.tmps[92]?.getD undef = .agg #[.int .i64 2, .int .i32 7, .slice o0 0 c0] := h0.2.trans e0
        have h1 := hall 83 93 (by omega) rfl
        obtain ⟨o1, c1, e1, r1⟩ : IsAct (3, 99, []) (vs 83) W := h1.1
        replace e1 : a.tmps[93]?.getD undef = .agg #[.int .i64 3, .int .i32 99, .slice o1 0 c1] := h1.2.trans e1
        clear hall hkeep h0 h1
        unfold Oper.wp
        go_simp
        refine hK _ _ (be_alloc (be_refl _) (Nat.le_refl _)) (be_alloc hBb hBb.size) ⟨some ⟨W.heap.size, 0, none⟩, some W.heap.size, [((2, 7, []), o0, c0), ((3, 99, []), o1, c1)], rfl, rfl, rfl, rd_block (bs_new rfl) rfl, fun d hd => ?_⟩
        simp only [List.mem_cons, List.not_mem_nil, or_false] at hd
        rcases hd with rfl | rfl
        · exact r0.below (be_alloc (be_refl _) (Nat.le_refl _))
        · exact r1.below (be_alloc (be_refl _) (Nat.le_refl _))
      | 85, _ =>
        cases ho
        have h1 := hall 84 94 (by omega) rfl
        have f1 : IsActs [(2, 7, []), (3, 99, [])] (vs 84) W := h1.1
        obtain ⟨o, lb, ds, e1, _⟩ := id f1
        have e2 : a.tmps[94]?.getD undef = .slice o 2 2 := h1.2.trans e1
        rw [e1] at f1
        clear h1
        clear hall hkeep
        unfold Oper.wp
        go_simp
        exact hK _ W (be_refl _) hBb ⟨_, rfl, f1⟩
      | 86, _ =>
        cases ho
        clear hall hkeep
        unfold Oper.wp
        go_simp
        exact hK _ W (be_refl _) hBb ⟨_, _, rfl, Rd.nil _ _ _⟩
      | 87, _ =>
        cases ho
        have h0 := hall 86 96 (by omega) rfl
        obtain ⟨o0, c0, e0, r0⟩ : IsAct (3, 99, []) (vs 86) W := h0.1
        replace e0 : a.tmps[96]?.getD undef = .agg #[.int .i64 3, .int .i32 99, .slice o0 0 c0] := h0.2.trans e0
        clear hall hkeep h0
        unfold Oper.wp
        go_simp
        refine hK _ _ (be_alloc (be_refl _) (Nat.le_refl _)) (be_alloc hBb hBb.size) ⟨some ⟨W.heap.size, 0, none⟩, some W.heap.size, [((3, 99, []), o0, c0)], rfl, rfl, rfl, rd_block (bs_new rfl) rfl, fun d hd => ?_⟩
        simp only [List.mem_cons, List.not_mem_nil, or_false] at hd
        rcases hd with rfl
        · exact r0.below (be_alloc (be_refl _) (Nat.le_refl _))
      | 88, _ =>
        cases ho
        have h1 := hall 87 97 (by omega) rfl
        have f1 : IsActs [(3, 99, [])] (vs 87) W := h1.1
        obtain ⟨o, lb, ds, e1, _⟩ := id f1
        have e2 : a.tmps[97]?.getD undef = .slice o 1 1 := h1.2.trans e1
        rw [e1] at f1
        clear h1
        clear hall hkeep
        unfold Oper.wp
        go_simp
        exact hK _ W (be_refl _) hBb ⟨_, rfl, f1⟩
      | 89, _ =>
        cases ho
        have e := hkeep (3, .func (.func 8) #[] #[]) (by simp)
        simp only at e
        unfold Oper.wp
        go_simp
        exact hK _ _ (be_refl _) hBb rfl
      | 90, _ =>
        cases ho
        have h1 := hall 89 99 (by omega) rfl
        have e1 : a.tmps[99]?.getD undef = .func (.func 8) #[] #[] := h1.2.trans h1.1
        clear hall hkeep h1
        go_simp
        (go_at_call 8; refine (p_val _ _).mono ?_; rintro e W9 ⟨rfl, hb9⟩)
        go_wp2_with fail
        exact hK _ W9 hb9 (be_call hb9 hBb.size hBb) ⟨_, _, rfl, Rd.nil _ _ _⟩
      | 91, _ =>
        cases ho
        have h0 := hall 90 100 (by omega) rfl
        obtain ⟨o0, c0, e0, r0⟩ : IsAct (1, 100, []) (vs 90) W := h0.1
        replace e0 : a.tmps[100]?.getD undef = .agg #[.int .i64 1, .int .i32 100, .slice o0 0 c0] := h0.2.trans e0
        clear hall hkeep h0
        unfold Oper.wp
        go_simp
        refine hK _ _ (be_alloc (be_refl _) (Nat.le_refl _)) (be_alloc hBb hBb.size) ⟨some ⟨W.heap.size, 0, none⟩, some W.heap.size, [((1, 100, []), o0, c0)], rfl, rfl, rfl, rd_block (bs_new rfl) rfl, fun d hd => ?_⟩
        simp only [List.mem_cons, List.not_mem_nil, or_false] at hd
        rcases hd with rfl
        · exact r0.below (be_alloc (be_refl _) (Nat.le_refl _))
      | 92, _ =>
        cases ho
        have h1 := hall 91 101 (by omega) rfl
        have f1 : IsActs [(1, 100, [])] (vs 91) W := h1.1
        obtain ⟨o, lb, ds, e1, _⟩ := id f1
        have e2 : a.tmps[101]?.getD undef = .slice o 1 1 := h1.2.trans e1
        rw [e1] at f1
        clear h1
        clear hall hkeep
        unfold Oper.wp
        go_simp
        exact hK _ W (be_refl _) hBb ⟨_, rfl, f1⟩
      | 93, _ =>
        cases ho
        have e := hkeep (3, .func (.func 8) #[] #[]) (by simp)
        simp only at e
        unfold Oper.wp
        go_simp
        exact hK _ _ (be_refl _) hBb rfl
      | 94, _ =>
        cases ho
        have h1 := hall 93 103 (by omega) rfl
        have e1 : a.tmps[103]?.getD undef = .func (.func 8) #[] #[] := h1.2.trans h1.1
        clear hall hkeep h1
        go_simp
        (go_at_call 8; refine (p_val _ _).mono ?_; rintro e W9 ⟨rfl, hb9⟩)
        go_wp2_with fail
        exact hK _ W9 hb9 (be_call hb9 hBb.size hBb) ⟨_, _, rfl, Rd.nil _ _ _⟩
      | 95, _ =>
        cases ho
        have h0 := hall 94 104 (by omega) rfl
        obtain ⟨o0, c0, e0, r0⟩ : IsAct (1, 100, []) (vs 94) W := h0.1
        replace e0 : a.tmps[104]?.getD undef = .agg #[.int .i64 1, .int .i32 100, .slice o0 0 c0] := h0.2.trans e0
        clear hall hkeep h0
        unfold Oper.wp
        go_simp
        refine hK _ _ (be_alloc (be_refl _) (Nat.le_refl _)) (be_alloc hBb hBb.size) ⟨some ⟨W.heap.size, 0, none⟩, some W.heap.size, [((1, 100, []), o0, c0)], rfl, rfl, rfl, rd_block (bs_new rfl) rfl, fun d hd => ?_⟩
        simp only [List.mem_cons, List.not_mem_nil, or_false] at hd
        rcases hd with rfl
        · exact r0.below (be_alloc (be_refl _) (Nat.le_refl _))
      | 96, _ =>
        cases ho
        have h1 := hall 95 105 (by omega) rfl
        have f1 : IsActs [(1, 100, [])] (vs 95) W := h1.1
        obtain ⟨o, lb, ds, e1, _⟩ := id f1
        have e2 : a.tmps[105]?.getD undef = .slice o 1 1 := h1.2.trans e1
        rw [e1] at f1
        clear h1
        clear hall hkeep
        unfold Oper.wp
        go_simp
        exact hK _ W (be_refl _) hBb ⟨_, rfl, f1⟩
      | 97, _ =>
        cases ho
        have e := hkeep (3, .func (.func 8) #[] #[]) (by simp)
        simp only at e
        unfold Oper.wp
        go_simp
        exact hK _ _ (be_refl _) hBb rfl
      | 98, _ =>
        cases ho
        have h1 := hall 97 107 (by omega) rfl
        have e1 : a.tmps[107]?.getD undef = .func (.func 8) #[] #[] := h1.2.trans h1.1
        clear hall hkeep h1
        go_simp
        (go_at_call 8; refine (p_val _ _).mono ?_; rintro e W9 ⟨rfl, hb9⟩)
        go_wp2_with fail
        exact hK _ W9 hb9 (be_call hb9 hBb.size hBb) ⟨_, _, rfl, Rd.nil _ _ _⟩
      | 99, _ =>
        cases ho
        have h0 := hall 98 108 (by omega) rfl
        obtain ⟨o0, c0, e0, r0⟩ : IsAct (1, 101, []) (vs 98) W := h0.1
        replace e0 : a.tmps[108]?.getD undef = .agg #[.int .i64 1, .int .i32 101, .slice o0 0 c0] := h0.2.trans e0
        clear hall hkeep h0
        unfold Oper.wp
        go_simp
        refine hK _ _ (be_alloc (be_refl _) (Nat.le_refl _)) (be_alloc hBb hBb.size) ⟨some ⟨W.heap.size, 0, none⟩, some W.heap.size, [((1, 101, []), o0, c0)], rfl, rfl, rfl, rd_block (bs_new rfl) rfl, fun d hd => ?_⟩
        simp only [List.mem_cons, List.not_mem_nil, or_false] at hd
        rcases hd with rfl
        · exact r0.below (be_alloc (be_refl _) (Nat.le_refl _))
      | 100, _ =>
        cases ho
        have h1 := hall 99 109 (by omega) rfl
        have f1 : IsActs [(1, 101, [])] (vs 99) W := h1.1
        obtain ⟨o, lb, ds, e1, _⟩ := id f1
        have e2 : a.tmps[109]?.getD undef = .slice o 1 1 := h1.2.trans e1
        rw [e1] at f1
        clear h1
        clear hall hkeep
        unfold Oper.wp
        go_simp
        exact hK _ W (be_refl _) hBb ⟨_, rfl, f1⟩
      | 101, _ =>
        cases ho
        have e := hkeep (3, .func (.func 8) #[] #[]) (by simp)
        simp only at e
        unfold Oper.wp
        go_simp
        exact hK _ _ (be_refl _) hBb rfl
      | 102, _ =>
        cases ho
        have h1 := hall 101 111 (by omega) rfl
        have e1 : a.tmps[111]?.getD undef = .func (.func 8) #[] #[] := h1.2.trans h1.1
        clear hall hkeep h1
        go_simp
        (go_at_call 8; refine (p_val _ _).mono ?_; rintro e W9 ⟨rfl, hb9⟩)
        go_wp2_with fail
        exact hK _ W9 hb9 (be_call hb9 hBb.size hBb) ⟨_, _, rfl, Rd.nil _ _ _⟩
      | 103, _ =>
        cases ho
        have h0 := hall 102 112 (by omega) rfl
        obtain ⟨o0, c0, e0, r0⟩ : IsAct (1, 97, []) (vs 102) W := h0.1
        replace e0 : a.tmps[112]?.getD undef = .agg #[.int .i64 1, .int .i32 97, .slice o0 0 c0] := h0.2.trans e0
        clear hall hkeep h0
        unfold Oper.wp
        go_simp
        refine hK _ _ (be_alloc (be_refl _) (Nat.le_refl _)) (be_alloc hBb hBb.size) ⟨some ⟨W.heap.size, 0, none⟩, some W.heap.size, [((1, 97, []), o0, c0)], rfl, rfl, rfl, rd_block (bs_new rfl) rfl, fun d hd => ?_⟩
        simp only [List.mem_cons, List.not_mem_nil, or_false] at hd
        rcases hd with rfl
        · exact r0.below (be_alloc (be_refl _) (Nat.le_refl _))
      | 104, _ =>
        cases ho
        have h1 := hall 103 113 (by omega) rfl
        have f1 : IsActs [(1, 97, [])] (vs 103) W := h1.1
        obtain ⟨o, lb, ds, e1, _⟩ := id f1
        have e2 : a.tmps[113]?.getD undef = .slice o 1 1 := h1.2.trans e1
        rw [e1] at f1
        clear h1
        clear hall hkeep
        unfold Oper.wp
        go_simp
        exact hK _ W (be_refl _) hBb ⟨_, rfl, f1⟩
      | 105, _ =>
        cases ho
        have f1 : IsActs [] (.slice none 0 0) W := ⟨none, none, [], rfl, rfl, rfl, Rd.nil _ _ _, fun d hd => by cases hd⟩
        clear hall hkeep
        unfold Oper.wp
        go_simp
        exact hK _ W (be_refl _) hBb ⟨_, rfl, f1⟩
      | 106, _ =>
        cases ho
        have e := hkeep (3, .func (.func 8) #[] #[]) (by simp)
        simp only at e
        unfold Oper.wp
        go_simp
        exact hK _ _ (be_refl _) hBb rfl
      | 107, _ =>
        cases ho
        have h1 := hall 106 116 (by omega) rfl
        have e1 : a.tmps[116]?.getD undef = .func (.func 8) #[] #[] := h1.2.trans h1.1
        clear hall hkeep h1
        go_simp
        (go_at_call 8; refine (p_val _ _).mono ?_; rintro e W9 ⟨rfl, hb9⟩)
        go_wp2_with fail
        exact hK _ W9 hb9 (be_call hb9 hBb.size hBb) ⟨_, _, rfl, Rd.nil _ _ _⟩
      | 108, _ =>
        cases ho
        have e := hkeep (4, .func (.func 9) #[] #[]) (by simp)
        simp only at e
        unfold Oper.wp
        go_simp
        exact hK _ _ (be_refl _) hBb rfl
      | 109, _ =>
        cases ho
        have h1 := hall 108 118 (by omega) rfl
        have e1 : a.tmps[118]?.getD undef = .func (.func 9) #[] #[] := h1.2.trans h1.1
        clear hall hkeep h1
        go_simp
        (go_at_call 9; refine (c_val _ _ _ _ _).mono ?_; rintro e W9 ⟨rfl, hb9⟩)
        go_wp2_with fail
        exact hK _ W9 hb9 (be_call hb9 hBb.size hBb) ⟨_, _, rfl, Rd.nil _ _ _⟩
      | 110, _ =>
        cases ho
        have h0 := hall 107 117 (by omega) rfl
        obtain ⟨o0, c0, e0, r0⟩ : IsAct (1, 65533, []) (vs 107) W := h0.1
        replace e0 : a.tmps[117]?.getD undef = .agg #[.int .i64 1, .int .i32 65533, .slice o0 0 c0] := h0.2.trans e0
        have h1 := hall 109 119 (by omega) rfl
        obtain ⟨o1, c1, e1, r1⟩ : IsAct (4, 65, []) (vs 109) W := h1.1
        replace e1 : a.tmps[119]?.getD undef = .agg #[.int .i64 4, .int .i32 65, .slice o1 0 c1] := h1.2.trans e1
        clear hall hkeep h0 h1
        unfold Oper.wp
        go_simp
        refine hK _ _ (be_alloc (be_refl _) (Nat.le_refl _)) (be_alloc hBb hBb.size) ⟨some ⟨W.heap.size, 0, none⟩, some W.heap.size, [((1, 65533, []), o0, c0), ((4, 65, []), o1, c1)], rfl, rfl, rfl, rd_block (bs_new rfl) rfl, fun d hd => ?_⟩
        simp only [List.mem_cons, List.not_mem_nil, or_false] at hd
        rcases hd with rfl | rfl
        · exact r0.below (be_alloc (be_refl _) (Nat.le_refl _))
        · exact r1.below (be_alloc (be_refl _) (Nat.le_refl _))
      | 111, _ =>
        cases ho
        have h1 := hall 110 120 (by omega) rfl
        have f1 : IsActs [(1, 65533, []), (4, 65, [])] (vs 110) W := h1.1
        obtain ⟨o, lb, ds, e1, _⟩ := id f1
        have e2 : a.tmps[120]?.getD undef = .slice o 2 2 := h1.2.trans e1
        rw [e1] at f1
        clear h1
        clear hall hkeep
        unfold Oper.wp
        go_simp
        exact hK _ W (be_refl _) hBb ⟨_, rfl, f1⟩
      | 112, _ =>
        cases ho
        have e := hkeep (4, .func (.func 9) #[] #[]) (by simp)
        simp only at e
        unfold Oper.wp
        go_simp
        exact hK _ _ (be_refl _) hBb rfl
      | 113, _ =>
        cases ho
        have h1 := hall 112 122 (by omega) rfl
        have e1 : a.tmps[122]?.getD undef = .func (.func 9) #[] #[] := h1.2.trans h1.1
        clear hall hkeep h1
        go_simp
        (go_at_call 9; refine (c_val _ _ _ _ _).mono ?_; rintro e W9 ⟨rfl, hb9⟩)
        go_wp2_with fail
        exact hK _ W9 hb9 (be_call hb9 hBb.size hBb) ⟨_, _, rfl, Rd.nil _ _ _⟩
      | 114, _ =>
        cases ho
        have h0 := hall 113 123 (by omega) rfl
        obtain ⟨o0, c0, e0, r0⟩ : IsAct (4, 65, []) (vs 113) W := h0.1
        replace e0 : a.tmps[123]?.getD undef = .agg #[.int .i64 4, .int .i32 65, .slice o0 0 c0] := h0.2.trans e0
        clear hall hkeep h0
        unfold Oper.wp
        go_simp
        refine hK _ _ (be_alloc (be_refl _) (Nat.le_refl _)) (be_alloc hBb hBb.size) ⟨some ⟨W.heap.size, 0, none⟩, some W.heap.size, [((4, 65, []), o0, c0)], rfl, rfl, rfl, rd_block (bs_new rfl) rfl, fun d hd => ?_⟩
        simp only [List.mem_cons, List.not_mem_nil, or_false] at hd
        rcases hd with rfl
        · exact r0.below (be_alloc (be_refl _) (Nat.le_refl _))
      | 115, _ =>
        cases ho
        have h1 := hall 114 124 (by omega) rfl
        have f1 : IsActs [(4, 65, [])] (vs 114) W := h1.1
        obtain ⟨o, lb, ds, e1, _⟩ := id f1
        have e2 : a.tmps[124]?.getD undef = .slice o 1 1 := h1.2.trans e1
        rw [e1] at f1
        clear h1
        clear hall hkeep
        unfold Oper.wp
        go_simp
        exact hK _ W (be_refl _) hBb ⟨_, rfl, f1⟩
      | 116, _ =>
        cases ho
        have h0 := hall 3 13 (by omega) rfl
        obtain ⟨u0, e0, f0⟩ : IsRowK ⟨#[97]⟩ [(1, 97, [])] (vs 3) W := h0.1
        replace e0 : a.tmps[13]?.getD undef = .agg #[.string ⟨#[97]⟩, u0] := h0.2.trans e0
        clear h0
        have h1 := hall 4 14 (by omega) rfl
        obtain ⟨u1, e1, f1⟩ : IsRowK ⟨#[1, 31, 127]⟩ [] (vs 4) W := h1.1
        replace e1 : a.tmps[14]?.getD undef = .agg #[.string ⟨#[1, 31, 127]⟩, u1] := h1.2.trans e1
        clear h1
        have h2 := hall 12 22 (by omega) rfl
        obtain ⟨u2, e2, f2⟩ : IsRowK ⟨#[7, 8, 13]⟩ [(2, 7, []), (2, 8, []), (2, 13, [])] (vs 12) W := h2.1
        replace e2 : a.tmps[22]?.getD undef = .agg #[.string ⟨#[7, 8, 13]⟩, u2] := h2.2.trans e2
        clear h2
        have h3 := hall 16 26 (by omega) rfl
        obtain ⟨u3, e3, f3⟩ : IsRowK ⟨#[27, 91, 65]⟩ [(4, 65, [])] (vs 16) W := h3.1
        replace e3 : a.tmps[26]?.getD undef = .agg #[.string ⟨#[27, 91, 65]⟩, u3] := h3.2.trans e3
        clear h3
        have h4 := hall 21 31 (by omega) rfl
        obtain ⟨u4, e4, f4⟩ : IsRowK ⟨#[27, 91, 48, 65]⟩ [(4, 65, [0])] (vs 21) W := h4.1
        replace e4 : a.tmps[31]?.getD undef = .agg #[.string ⟨#[27, 91, 48, 65]⟩, u4] := h4.2.trans e4
        clear h4
        have h5 := hall 26 36 (by omega) rfl
        obtain ⟨u5, e5, f5⟩ : IsRowK ⟨#[27, 91, 59, 65]⟩ [(4, 65, [(-1), (-1)])] (vs 26) W := h5.1
        replace e5 : a.tmps[36]?.getD undef = .agg #[.string ⟨#[27, 91, 59, 65]⟩, u5] := h5.2.trans e5
        clear h5
        have h6 := hall 31 41 (by omega) rfl
        obtain ⟨u6, e6, f6⟩ : IsRowK ⟨#[27, 91, 59, 59, 65]⟩ [(4, 65, [(-1), (-1), (-1)])] (vs 31) W := h6.1
        replace e6 : a.tmps[41]?.getD undef = .agg #[.string ⟨#[27, 91, 59, 59, 65]⟩, u6] := h6.2.trans e6
        clear h6
        have h7 := hall 36 46 (by omega) rfl
        obtain ⟨u7, e7, f7⟩ : IsRowK ⟨#[27, 91, 49, 59, 65]⟩ [(4, 65, [1, (-1)])] (vs 36) W := h7.1
        replace e7 : a.tmps[46]?.getD undef = .agg #[.string ⟨#[27, 91, 49, 59, 65]⟩, u7] := h7.2.trans e7
        clear h7
        have h8 := hall 41 51 (by omega) rfl
        obtain ⟨u8, e8, f8⟩ : IsRowK ⟨#[27, 91, 49, 59, 50, 65]⟩ [(4, 65, [1, 2])] (vs 41) W := h8.1
        replace e8 : a.tmps[51]?.getD undef = .agg #[.string ⟨#[27, 91, 49, 59, 50, 65]⟩, u8] := h8.2.trans e8
        clear h8
        have h9 := hall 46 56 (by omega) rfl
        obtain ⟨u9, e9, f9⟩ : IsRowK ⟨#[27, 91, 55, 48, 48, 48, 48, 65]⟩ [(4, 65, [65535])] (vs 46) W := h9.1
        replace e9 : a.tmps[56]?.getD undef = .agg #[.string ⟨#[27, 91, 55, 48, 48, 48, 48, 65]⟩, u9] := h9.2.trans e9
        clear h9
        have h10 := hall 47 57 (by omega) rfl
        obtain ⟨u10, e10, f10⟩ : IsRowK ⟨#[27, 91, 49, 58, 50, 65]⟩ [] (vs 47) W := h10.1
        replace e10 : a.tmps[57]?.getD undef = .agg #[.string ⟨#[27, 91, 49, 58, 50, 65]⟩, u10] := h10.2.trans e10
        clear h10
        have h11 := hall 48 58 (by omega) rfl
        obtain ⟨u11, e11, f11⟩ : IsRowK ⟨#[27, 91, 62, 49, 65]⟩ [] (vs 48) W := h11.1
        replace e11 : a.tmps[58]?.getD undef = .agg #[.string ⟨#[27, 91, 62, 49, 65]⟩, u11] := h11.2.trans e11
        clear h11
        have h12 := hall 49 59 (by omega) rfl
        obtain ⟨u12, e12, f12⟩ : IsRowK ⟨#[27, 91, 49, 32, 65]⟩ [] (vs 49) W := h12.1
        replace e12 : a.tmps[59]?.getD undef = .agg #[.string ⟨#[27, 91, 49, 32, 65]⟩, u12] := h12.2.trans e12
        clear h12
        have h13 := hall 52 62 (by omega) rfl
        obtain ⟨u13, e13, f13⟩ : IsRowK ⟨#[27, 91, 63, 65]⟩ [(5, 65, [])] (vs 52) W := h13.1
        replace e13 : a.tmps[62]?.getD undef = .agg #[.string ⟨#[27, 91, 63, 65]⟩, u13] := h13.2.trans e13
        clear h13
        have h14 := hall 56 66 (by omega) rfl
        obtain ⟨u14, e14, f14⟩ : IsRowK ⟨#[27, 91, 63, 49, 59, 50, 104]⟩ [(5, 104, [1, 2])] (vs 56) W := h14.1
        replace e14 : a.tmps[66]?.getD undef = .agg #[.string ⟨#[27, 91, 63, 49, 59, 50, 104]⟩, u14] := h14.2.trans e14
        clear h14
        have h15 := hall 57 67 (by omega) rfl
        obtain ⟨u15, e15, f15⟩ : IsRowK ⟨#[27, 91, 63, 63, 65]⟩ [] (vs 57) W := h15.1
        replace e15 : a.tmps[67]?.getD undef = .agg #[.string ⟨#[27, 91, 63, 63, 65]⟩, u15] := h15.2.trans e15
        clear h15
        have h16 := hall 64 74 (by omega) rfl
        obtain ⟨u16, e16, f16⟩ : IsRowK ⟨#[27, 91, 49, 8, 65]⟩ [(2, 8, []), (4, 65, [1])] (vs 64) W := h16.1
        replace e16 : a.tmps[74]?.getD undef = .agg #[.string ⟨#[27, 91, 49, 8, 65]⟩, u16] := h16.2.trans e16
        clear h16
        have h17 := hall 68 78 (by omega) rfl
        obtain ⟨u17, e17, f17⟩ : IsRowK ⟨#[27, 91, 49, 24, 65]⟩ [(1, 65, [])] (vs 68) W := h17.1
        replace e17 : a.tmps[78]?.getD undef = .agg #[.string ⟨#[27, 91, 49, 24, 65]⟩, u17] := h17.2.trans e17
        clear h17
        have h18 := hall 73 83 (by omega) rfl
        obtain ⟨u18, e18, f18⟩ : IsRowK ⟨#[27, 91, 49, 27, 91, 50, 65]⟩ [(4, 65, [2])] (vs 73) W := h18.1
        replace e18 : a.tmps[83]?.getD undef = .agg #[.string ⟨#[27, 91, 49, 27, 91, 50, 65]⟩, u18] := h18.2.trans e18
        clear h18
        have h19 := hall 76 86 (by omega) rfl
        obtain ⟨u19, e19, f19⟩ : IsRowK ⟨#[27, 55]⟩ [(3, 55, [])] (vs 76) W := h19.1
        replace e19 : a.tmps[86]?.getD undef = .agg #[.string ⟨#[27, 55]⟩, u19] := h19.2.trans e19
        clear h19
        have h20 := hall 80 90 (by omega) rfl
        obtain ⟨u20, e20, f20⟩ : IsRowK ⟨#[27, 40, 66, 97]⟩ [(1, 97, [])] (vs 80) W := h20.1
        replace e20 : a.tmps[90]?.getD undef = .agg #[.string ⟨#[27, 40, 66, 97]⟩, u20] := h20.2.trans e20
        clear h20
        have h21 := hall 85 95 (by omega) rfl
        obtain ⟨u21, e21, f21⟩ : IsRowK ⟨#[27, 7, 99]⟩ [(2, 7, []), (3, 99, [])] (vs 85) W := h21.1
        replace e21 : a.tmps[95]?.getD undef = .agg #[.string ⟨#[27, 7, 99]⟩, u21] := h21.2.trans e21
        clear h21
        have h22 := hall 88 98 (by omega) rfl
        obtain ⟨u22, e22, f22⟩ : IsRowK ⟨#[27, 27, 99]⟩ [(3, 99, [])] (vs 88) W := h22.1
        replace e22 : a.tmps[98]?.getD undef = .agg #[.string ⟨#[27, 27, 99]⟩, u22] := h22.2.trans e22
        clear h22
        have h23 := hall 92 102 (by omega) rfl
        obtain ⟨u23, e23, f23⟩ : IsRowK ⟨#[27, 93, 48, 59, 97, 98, 99, 7, 100]⟩ [(1, 100, [])] (vs 92) W := h23.1
        replace e23 : a.tmps[102]?.getD undef = .agg #[.string ⟨#[27, 93, 48, 59, 97, 98, 99, 7, 100]⟩, u23] := h23.2.trans e23
        clear h23
        have h24 := hall 96 106 (by omega) rfl
        obtain ⟨u24, e24, f24⟩ : IsRowK ⟨#[27, 93, 48, 59, 97, 98, 99, 27, 92, 100]⟩ [(1, 100, [])] (vs 96) W := h24.1
        replace e24 : a.tmps[106]?.getD undef = .agg #[.string ⟨#[27, 93, 48, 59, 97, 98, 99, 27, 92, 100]⟩, u24] := h24.2.trans e24
        clear h24
        have h25 := hall 100 110 (by omega) rfl
        obtain ⟨u25, e25, f25⟩ : IsRowK ⟨#[27, 80, 97, 98, 99, 27, 100, 24, 101]⟩ [(1, 101, [])] (vs 100) W := h25.1
        replace e25 : a.tmps[110]?.getD undef = .agg #[.string ⟨#[27, 80, 97, 98, 99, 27, 100, 24, 101]⟩, u25] := h25.2.trans e25
        clear h25
        have h26 := hall 104 114 (by omega) rfl
        obtain ⟨u26, e26, f26⟩ : IsRowK ⟨#[27, 255, 97]⟩ [(1, 97, [])] (vs 104) W := h26.1
        replace e26 : a.tmps[114]?.getD undef = .agg #[.string ⟨#[27, 255, 97]⟩, u26] := h26.2.trans e26
        clear h26
        have h27 := hall 105 115 (by omega) rfl
        obtain ⟨u27, e27, f27⟩ : IsRowK ⟨#[194, 133]⟩ [] (vs 105) W := h27.1
        replace e27 : a.tmps[115]?.getD undef = .agg #[.string ⟨#[194, 133]⟩, u27] := h27.2.trans e27
        clear h27
        have h28 := hall 111 121 (by omega) rfl
        obtain ⟨u28, e28, f28⟩ : IsRowK ⟨#[195, 27, 91, 65]⟩ [(1, 65533, []), (4, 65, [])] (vs 111) W := h28.1
        replace e28 : a.tmps[121]?.getD undef = .agg #[.string ⟨#[195, 27, 91, 65]⟩, u28] := h28.2.trans e28
        clear h28
        have h29 := hall 115 125 (by omega) rfl
        obtain ⟨u29, e29, f29⟩ : IsRowK ⟨#[27, 91, 128, 65]⟩ [(4, 65, [])] (vs 115) W := h29.1
        replace e29 : a.tmps[125]?.getD undef = .agg #[.string ⟨#[27, 91, 128, 65]⟩, u29] := h29.2.trans e29
        clear h29
        clear hall hkeep
        unfold Oper.wp
        go_simp
        have hbb : Below W.heap.size W (W.alloc (.cells #[.string ⟨#[97]⟩, u0, .string ⟨#[1, 31, 127]⟩, u1, .string ⟨#[7, 8, 13]⟩, u2, .string ⟨#[27, 91, 65]⟩, u3, .string ⟨#[27, 91, 48, 65]⟩, u4, .string ⟨#[27, 91, 59, 65]⟩, u5, .string ⟨#[27, 91, 59, 59, 65]⟩, u6, .string ⟨#[27, 91, 49, 59, 65]⟩, u7, .string ⟨#[27, 91, 49, 59, 50, 65]⟩, u8, .string ⟨#[27, 91, 55, 48, 48, 48, 48, 65]⟩, u9, .string ⟨#[27, 91, 49, 58, 50, 65]⟩, u10, .string ⟨#[27, 91, 62, 49, 65]⟩, u11, .string ⟨#[27, 91, 49, 32, 65]⟩, u12, .string ⟨#[27, 91, 63, 65]⟩, u13, .string ⟨#[27, 91, 63, 49, 59, 50, 104]⟩, u14, .string ⟨#[27, 91, 63, 63, 65]⟩, u15, .string ⟨#[27, 91, 49, 8, 65]⟩, u16, .string ⟨#[27, 91, 49, 24, 65]⟩, u17, .string ⟨#[27, 91, 49, 27, 91, 50, 65]⟩, u18, .string ⟨#[27, 55]⟩, u19, .string ⟨#[27, 40, 66, 97]⟩, u20, .string ⟨#[27, 7, 99]⟩, u21, .string ⟨#[27, 27, 99]⟩, u22, .string ⟨#[27, 93, 48, 59, 97, 98, 99, 7, 100]⟩, u23, .string ⟨#[27, 93, 48, 59, 97, 98, 99, 27, 92, 100]⟩, u24, .string ⟨#[27, 80, 97, 98, 99, 27, 100, 24, 101]⟩, u25, .string ⟨#[27, 255, 97]⟩, u26, .string ⟨#[194, 133]⟩, u27, .string ⟨#[195, 27, 91, 65]⟩, u28, .string ⟨#[27, 91, 128, 65]⟩, u29] 28)) := be_alloc (be_refl _) (Nat.le_refl _)
        refine hK _ _ hbb (be_alloc hBb hBb.size) ⟨W.heap.size, _, rfl, bs_new rfl, all30 ⟨u0, rfl, rfl, f0.below hbb⟩ ⟨u1, rfl, rfl, f1.below hbb⟩ ⟨u2, rfl, rfl, f2.below hbb⟩ ⟨u3, rfl, rfl, f3.below hbb⟩ ⟨u4, rfl, rfl, f4.below hbb⟩ ⟨u5, rfl, rfl, f5.below hbb⟩ ⟨u6, rfl, rfl, f6.below hbb⟩ ⟨u7, rfl, rfl, f7.below hbb⟩ ⟨u8, rfl, rfl, f8.below hbb⟩ ⟨u9, rfl, rfl, f9.below hbb⟩ ⟨u10, rfl, rfl, f10.below hbb⟩ ⟨u11, rfl, rfl, f11.below hbb⟩ ⟨u12, rfl, rfl, f12.below hbb⟩ ⟨u13, rfl, rfl, f13.below hbb⟩ ⟨u14, rfl, rfl, f14.below hbb⟩ ⟨u15, rfl, rfl, f15.below hbb⟩ ⟨u16, rfl, rfl, f16.below hbb⟩ ⟨u17, rfl, rfl, f17.below hbb⟩ ⟨u18, rfl, rfl, f18.below hbb⟩ ⟨u19, rfl, rfl, f19.below hbb⟩ ⟨u20, rfl, rfl, f20.below hbb⟩ ⟨u21, rfl, rfl, f21.below hbb⟩ ⟨u22, rfl, rfl, f22.below hbb⟩ ⟨u23, rfl, rfl, f23.below hbb⟩ ⟨u24, rfl, rfl, f24.below hbb⟩ ⟨u25, rfl, rfl, f25.below hbb⟩ ⟨u26, rfl, rfl, f26.below hbb⟩ ⟨u27, rfl, rfl, f27.below hbb⟩ ⟨u28, rfl, rfl, f28.below hbb⟩ ⟨u29, rfl, rfl, f29.below hbb⟩⟩
      | 117, _ =>
        cases ho
        have h1 := hall 116 126 (by omega) rfl
        have f1 : IsTab (vs 116) W := h1.1
        obtain ⟨b, cs, e1, _⟩ := id f1
        have e2 : a.tmps[126]?.getD undef = .slice (some ⟨b, 0, none⟩) 30 30 := h1.2.trans e1
        rw [e1] at f1
        clear h1 hall hkeep
        unfold Oper.wp
        go_simp
        exact hK _ W (be_refl _) hBb f1
      | n + 118, h => exact absurd h (by have : n + 118 < 118 := h; omega)
  · intro vs W hBW hG
    obtain ⟨b, cs, e1, hcs, hT⟩ : IsTab (vs 117) W := hG 117 (by decide)
    obtain ⟨u, hu0, hu1, hA⟩ := hT K hK29
    clear hG hT
    rw [show putsOf vs 0 dsts = [(some 10, vs 0), (some 11, vs 1), (some 12, vs 2), (some 13, vs 3), (some 14, vs 4), (some 15, vs 5), (some 16, vs 6), (some 17, vs 7), (some 18, vs 8), (some 19, vs 9), (some 20, vs 10), (some 21, vs 11), (some 22, vs 12), (some 23, vs 13), (some 24, vs 14), (some 25, vs 15), (some 26, vs 16), (some 27, vs 17), (some 28, vs 18), (some 29, vs 19), (some 30, vs 20), (some 31, vs 21), (some 32, vs 22), (some 33, vs 23), (some 34, vs 24), (some 35, vs 25), (some 36, vs 26), (some 37, vs 27), (some 38, vs 28), (some 39, vs 29), (some 40, vs 30), (some 41, vs 31), (some 42, vs 32), (some 43, vs 33), (some 44, vs 34), (some 45, vs 35), (some 46, vs 36), (some 47, vs 37), (some 48, vs 38), (some 49, vs 39), (some 50, vs 40), (some 51, vs 41), (some 52, vs 42), (some 53, vs 43), (some 54, vs 44), (some 55, vs 45), (some 56, vs 46), (some 57, vs 47), (some 58, vs 48), (some 59, vs 49), (some 60, vs 50), (some 61, vs 51), (some 62, vs 52), (some 63, vs 53), (some 64, vs 54), (some 65, vs 55), (some 66, vs 56), (some 67, vs 57), (some 68, vs 58), (some 69, vs 59), (some 70, vs 60), (some 71, vs 61), (some 72, vs 62), (some 73, vs 63), (some 74, vs 64), (some 75, vs 65), (some 76, vs 66), (some 77, vs 67), (some 78, vs 68), (some 79, vs 69), (some 80, vs 70), (some 81, vs 71), (some 82, vs 72), (some 83, vs 73), (some 84, vs 74), (some 85, vs 75), (some 86, vs 76), (some 87, vs 77), (some 88, vs 78), (some 89, vs 79), (some 90, vs 80), (some 91, vs 81), (some 92, vs 82), (some 93, vs 83), (some 94, vs 84), (some 95, vs 85), (some 96, vs 86), (some 97, vs 87), (some 98, vs 88), (some 99, vs 89), (some 100, vs 90), (some 101, vs 91), (some 102, vs 92), (some 103, vs 93), (some 104, vs 94), (some 105, vs 95), (some 106, vs 96), (some 107, vs 97), (some 108, vs 98), (some 109, vs 99), (some 110, vs 100), (some 111, vs 101), (some 112, vs 102), (some 113, vs 103), (some 114, vs 104), (some 115, vs 105), (some 116, vs 106), (some 117, vs 107), (some 118, vs 108), (some 119, vs 109), (some 120, vs 110), (some 121, vs 111), (some 122, vs 112), (some 123, vs 113), (some 124, vs 114), (some 125, vs 115), (some 126, vs 116), (some 6, vs 117)] from rfl]
    rw [e1]
    clear e1
    generalize vs 0 = q0
    generalize vs 1 = q1
    generalize vs 2 = q2
    generalize vs 3 = q3
    generalize vs 4 = q4
    generalize vs 5 = q5
    generalize vs 6 = q6
    generalize vs 7 = q7
    generalize vs 8 = q8
    generalize vs 9 = q9
    generalize vs 10 = q10
    generalize vs 11 = q11
    generalize vs 12 = q12
    generalize vs 13 = q13
    generalize vs 14 = q14
    generalize vs 15 = q15
    generalize vs 16 = q16
    generalize vs 17 = q17
    generalize vs 18 = q18
    generalize vs 19 = q19
    generalize vs 20 = q20
    generalize vs 21 = q21
    generalize vs 22 = q22
    generalize vs 23 = q23
    generalize vs 24 = q24
    generalize vs 25 = q25
    generalize vs 26 = q26
    generalize vs 27 = q27
    generalize vs 28 = q28
    generalize vs 29 = q29
    generalize vs 30 = q30
    generalize vs 31 = q31
    generalize vs 32 = q32
    generalize vs 33 = q33
    generalize vs 34 = q34
    generalize vs 35 = q35
    generalize vs 36 = q36
    generalize vs 37 = q37
    generalize vs 38 = q38
    generalize vs 39 = q39
    generalize vs 40 = q40
    generalize vs 41 = q41
    generalize vs 42 = q42
    generalize vs 43 = q43
    generalize vs 44 = q44
    generalize vs 45 = q45
    generalize vs 46 = q46
    generalize vs 47 = q47
    generalize vs 48 = q48
    generalize vs 49 = q49
    generalize vs 50 = q50
    generalize vs 51 = q51
    generalize vs 52 = q52
    generalize vs 53 = q53
    generalize vs 54 = q54
    generalize vs 55 = q55
    generalize vs 56 = q56
    generalize vs 57 = q57
    generalize vs 58 = q58
    generalize vs 59 = q59
    generalize vs 60 = q60
    generalize vs 61 = q61
    generalize vs 62 = q62
    generalize vs 63 = q63
    generalize vs 64 = q64
    generalize vs 65 = q65
    generalize vs 66 = q66
    generalize vs 67 = q67
    generalize vs 68 = q68
    generalize vs 69 = q69
    generalize vs 70 = q70
    generalize vs 71 = q71
    generalize vs 72 = q72
    generalize vs 73 = q73
    generalize vs 74 = q74
    generalize vs 75 = q75
    generalize vs 76 = q76
    generalize vs 77 = q77
    generalize vs 78 = q78
    generalize vs 79 = q79
    generalize vs 80 = q80
    generalize vs 81 = q81
    generalize vs 82 = q82
    generalize vs 83 = q83
    generalize vs 84 = q84
    generalize vs 85 = q85
    generalize vs 86 = q86
    generalize vs 87 = q87
    generalize vs 88 = q88
    generalize vs 89 = q89
    generalize vs 90 = q90
    generalize vs 91 = q91
    generalize vs 92 = q92
    generalize vs 93 = q93
    generalize vs 94 = q94
    generalize vs 95 = q95
    generalize vs 96 = q96
    generalize vs 97 = q97
    generalize vs 98 = q98
    generalize vs 99 = q99
    generalize vs 100 = q100
    generalize vs 101 = q101
    generalize vs 102 = q102
    generalize vs 103 = q103
    generalize vs 104 = q104
    generalize vs 105 = q105
    generalize vs 106 = q106
    generalize vs 107 = q107
    generalize vs 108 = q108
    generalize vs 109 = q109
    generalize vs 110 = q110
    generalize vs 111 = q111
    generalize vs 112 = q112
    generalize vs 113 = q113
    generalize vs 114 = q114
    generalize vs 115 = q115
    generalize vs 116 = q116
    simp only [Facts.putAll, Go.Act.put]
    obtain ⟨o, lb, ds, rfl, hsl, hAR⟩ := hA
    have hc0 : W.cell? ⟨b, K * 2, none⟩ = some (.string (strK K)) := (cell_of hcs (K * 2)).trans (by rw [Nat.mul_comm]; exact hu0)
    have hc1 : W.cell? ⟨b, K * 2 + 1, none⟩ = some (.slice o (actsK K).length (actsK K).length) := (cell_of hcs (K * 2 + 1)).trans (by rw [Nat.mul_comm]; exact hu1)
    have k1 : (K : Int) < 30 := by omega
    have k2 : (0 : Int) ≤ (K : Int) := by omega
    have HAR := hide hAR
    have HSL := hide hsl
    clear hu0 hu1 hsl hAR
    go_upto_region 6 with fail
    refine wp_letter (fun X => X.heap[W.heap.size]? = some (.cells #[.string (strK K), .slice o (actsK K).length (actsK K).length] 28 (0, 0)) ∧ AR X lb (actsK K) ds ∧ Below w.heap.size w X) ⟨?_, ?_, ?_⟩ ?_
    · (apply bs_eq; (case h => (repeat (first | (with_reducible assumption) | (with_reducible apply bs_same) | (with_reducible apply bs_far; case hp => (dsimp only; omega)) | (with_reducible apply bs_drew) | (with_reducible apply bs_drewN) | (with_reducible apply bs_new; (first | (with_reducible rfl) | (simp; done))) | (with_reducible apply bs_alloc) | (with_reducible apply bs_below; (case hb => with_reducible assumption); (case hB => first | omega | (simp; omega) | (simp; done)))))); (case e => rfl))
    · exact HAR.out.below (by have h9 := be_refl W; (repeat (first | (with_reducible assumption) | with_reducible exact be_refl _ | (with_reducible refine be_set ?_ (by dsimp only; omega)) | (with_reducible apply be_drew) | (with_reducible apply be_drewN) | (with_reducible refine be_alloc ?_ (by first | omega | (simp; omega) | simp)) | (with_reducible refine be_call (by with_reducible assumption) (by first | omega | (simp; omega) | simp) ?_))))
    · have h9 := hBW.size; (repeat (first | (with_reducible assumption) | with_reducible exact be_refl _ | (with_reducible refine be_set ?_ (by dsimp only; omega)) | (with_reducible apply be_drew) | (with_reducible apply be_drewN) | (with_reducible refine be_alloc ?_ (by first | omega | (simp; omega) | simp)) | (with_reducible refine be_call (by with_reducible assumption) (by first | omega | (simp; omega) | simp) ?_)))
    obtain ⟨G, hG⟩ : ∃ G, G = W.heap.size := ⟨_, rfl⟩
    rw [← hG]
    clear hG hcs hc0 hc1 HAR hBW
    rintro X ⟨kG, har, hBX⟩
    have HAR := hide har
    have hXs := hBX.size
    have sG := bs_lt kG
    obtain ⟨x0, x1, _⟩ := cells2 kG
    clear har
    have HSM := hide (small K hK29)
    have HF := hide (fed K hK29)
    clear hK29
    have kb := fun W => print_bytes (P := Try.prog) 9 36 5 Try.underlying9 Try.underlying36 Try.underlying5 (strK K) W
    have HBC := hide (fun (W : World) => conv_below (be_refl W) (Nat.le_refl _) 5 (strK K))
    go_upto_region 7 with (go_at_call 11; (with_reducible refine (feedM (bytesOf (strK K)) (bytesOf_ok _) (by rw [size_bytes]; have := HSM.out.1; omega) _ (size_bytes _) (actsK K) HF.out _ rfl _ _ _ ?hr).mono ?_); (case hr => exact rd_of_reads (bytes_reads _ _ _ (by have := HSM.out.1; omega))); rintro e w8 ⟨A3, c3, lb3, cap3, o3, ds3, rfl, ho3, ha3, hb8⟩; have HA3 := hide ha3; have H3 := hide ho3; have hz8 := hb8.size; (try simp at hz8); obtain ⟨hc8, hf8⟩ := be_cells hb8; clear ho3 ha3)
    have hsz := (HBC.out X).size
    have hb9 : Below X.heap.size X w8 := be_call hb8 hsz (HBC.out X)
    have hbw : Below w.heap.size w w8 := be_call hb9 hXs hBX
    have hs9 := hb9.size
    have kG8 := bs_below hb9 sG kG
    have har8 := HAR.out.below hb9
    refine wp_letter (fun Y => Y.heap[G]? = some (.cells #[.string (strK K), .slice o (actsK K).length (actsK K).length] 28 (0, 0)) ∧ Y.heap[w8.heap.size]? = some (.cells #[.int .i64 0, .int .i64 0, .int .i64 0, .int .i64 0, .slice A3 0 c3, .int .i64 0, .bool false, .bool false] 33 (0, 0)) ∧ AR Y lb3 (actsK K) ds3 ∧ AR Y lb (actsK K) ds ∧ Below w.heap.size w Y) ⟨?_, ?_, ?_, ?_, ?_⟩ ?_
    · clear hb8 hc8 hf8 kG; (repeat (first | (with_reducible assumption) | (with_reducible apply bs_same) | (with_reducible apply bs_far; case hp => (dsimp only; omega)) | (with_reducible apply bs_drew) | (with_reducible apply bs_drewN) | (with_reducible apply bs_new; (first | (with_reducible rfl) | (simp; done))) | (with_reducible apply bs_alloc) | (with_reducible apply bs_below; (case hb => with_reducible assumption); (case hB => first | omega | (simp; omega) | (simp; done)))))
    · clear hb8 hc8 hf8; (apply bs_eq; (case h => (repeat (first | (with_reducible assumption) | (with_reducible apply bs_same) | (with_reducible apply bs_far; case hp => (dsimp only; omega)) | (with_reducible apply bs_drew) | (with_reducible apply bs_drewN) | (with_reducible apply bs_new; (first | (with_reducible rfl) | (simp; done))) | (with_reducible apply bs_alloc) | (with_reducible apply bs_below; (case hb => with_reducible assumption); (case hB => first | omega | (simp; omega) | (simp; done)))))); (case e => rfl))
    · exact HA3.out.below (by have h9 := be_refl w8; clear hb8 hb9 hbw; (repeat (first | (with_reducible assumption) | with_reducible exact be_refl _ | (with_reducible refine be_set ?_ (by dsimp only; omega)) | (with_reducible apply be_drew) | (with_reducible apply be_drewN) | (with_reducible refine be_alloc ?_ (by first | omega | (simp; omega) | simp)) | (with_reducible refine be_call (by with_reducible assumption) (by first | omega | (simp; omega) | simp) ?_))))
    · exact har8.below (by have h9 := be_refl w8; clear hb8 hb9 hbw; (repeat (first | (with_reducible assumption) | with_reducible exact be_refl _ | (with_reducible refine be_set ?_ (by dsimp only; omega)) | (with_reducible apply be_drew) | (with_reducible apply be_drewN) | (with_reducible refine be_alloc ?_ (by first | omega | (simp; omega) | simp)) | (with_reducible refine be_call (by with_reducible assumption) (by first | omega | (simp; omega) | simp) ?_))))
    · have h9 := hbw.size; clear hb8 hb9; (repeat (first | (with_reducible assumption) | with_reducible exact be_refl _ | (with_reducible refine be_set ?_ (by dsimp only; omega)) | (with_reducible apply be_drew) | (with_reducible apply be_drewN) | (with_reducible refine be_alloc ?_ (by first | omega | (simp; omega) | simp)) | (with_reducible refine be_call (by with_reducible assumption) (by first | omega | (simp; omega) | simp) ?_)))
    obtain ⟨G4, hG4⟩ : ∃ G, G = w8.heap.size := ⟨_, rfl⟩
    rw [← hG4]
    clear hG4 HA3 HAR hb8 hb9 hbw hs9 kG8 har8 hz8 hc8 hf8 hsz x0 x1 kG sG hBX hXs kb HBC HF
    rintro Y ⟨kA, kB, ha3, ha, hBY⟩
    have HA3 := hide ha3
    have HA := hide ha
    have hYs := hBY.size
    have sA := bs_lt kA
    have sB := bs_lt kB
    clear ha3 ha
    obtain ⟨x0, x1, _⟩ := cells2 kA
    obtain ⟨z0, z1, z2, z3, z4, z5, z6, z7, _⟩ := cells8 kB
    go_wp2_with (first
      | (go_at_call 12; (with_reducible refine (sameActs_at (actsK K) _ rfl (by have := HSM.out.2.1; omega) (fun a h9 => by have := of_decide_eq_true (List.all_eq_true.1 HSM.out.2.2 a h9); omega) lb3 lb o3 o cap3 (actsK K).length H3.out HSL.out ds3 ds _ ?ha ?hb).mono ?_); (case ha => exact HA3.out); (case hb => exact HA.out); rintro e w6 ⟨rfl, hb6⟩; have hz6 := hb6.size; (try simp at hz6))
      | (go_at_call 13; (with_reducible refine (awake_val _).mono ?_); rintro e w5 ⟨rfl, hb5⟩; have hz5 := hb5.size; (try simp at hz5)))
    go_ret
    exact ⟨rfl, by (repeat (first | (with_reducible assumption) | with_reducible exact be_refl _ | (with_reducible refine be_set ?_ (by dsimp only; omega)) | (with_reducible apply be_drew) | (with_reducible apply be_drewN) | (with_reducible refine be_alloc ?_ (by first | omega | (simp; omega) | simp)) | (with_reducible refine be_call (by with_reducible assumption) (by first | omega | (simp; omega) | simp) ?_)))⟩
end Go.Proofs.Ytiahfgcfgpakiaa.EscaFormsW


