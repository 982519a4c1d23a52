/- RowsForms: what is put in, taken out, and cleared of the row a b c d e is as it should be: for every number, without a condition. -/
import Derived.Laws.Runes
import Derived.Laws.Concat
import Derived.Test.YteelcbjapbhogaaRowsUse
namespace Go.Proofs.Yteelcbjapbhogaa.RowsFormsW
open Go Go.RowKit Go.Proofs.YteelcbjapbhogaaKit Go.Proofs.Yteelcbjapbhogaa.Mem Go.Proofs.Yteelcbjapbhogaa.RowsBase Go.Proofs.Yteelcbjapbhogaa.RowsRep Go.Proofs.Yteelcbjapbhogaa.RowsOps Go.Proofs.Yteelcbjapbhogaa.RowsMore Go.Proofs.Yteelcbjapbhogaa.RowsIns Go.Proofs.Yteelcbjapbhogaa.RowsUse
attribute [local go_sem] cell_alloc_some cell_alloc2_some cell_alloc3_some cell_alloc4_some
set_option linter.unusedVariables false
set_option linter.unusedSimpArgs false
theorem and255 (n : Int) : ∃ N : Nat, Go.bits .and .i64 n 255 = (N : Int) ∧ N ≤ 255 := by
  have h : 0 ≤ Go.bits .and .i64 n 255 ∧ Go.bits .and .i64 n 255 ≤ 255 := and_range 8 (by omega) n
  exact ⟨(Go.bits .and .i64 n 255).toNat, by omega, by omega⟩
def r5 : List C := [(97, 0), (98, 0), (99, 0), (100, 0), (101, 0)]
/-- A row as text. -/
def txt (cs : List C) : ByteArray := (cs.map fun c => Utf8.encode c.1).foldl (· ++ ·) ByteArray.empty
theorem txt_succ (cs : List C) (j : Nat) (c : C) (hc : cs[j]? = some c) : txt (cs.take (j + 1)) = txt (cs.take j) ++ Utf8.encode c.1 := by
  unfold txt
  rw [List.take_add_one, hc, Option.toList_some, List.map_append, List.foldl_append]
  rfl
theorem enc_size (n : Int) (h : 0 ≤ n ∧ n < 128) : (Utf8.encode n).size = 1 := by
  unfold Utf8.encode
  have h1 : n.toNat < 128 := by omega
  have hv : Utf8.valid n = true := by unfold Utf8.valid; simp; omega
  simp [hv, h1, ByteArray.size]
def Asc (cs : List C) : Prop := ∀ c ∈ cs, 0 ≤ c.1 ∧ c.1 < 128
theorem txt_size (cs : List C) (h : Asc cs) (j : Nat) : (txt (cs.take j)).size ≤ j := by
  induction j with
  | zero => simp [txt]
  | succ j ih =>
    by_cases hj : j < cs.length
    · rw [txt_succ cs j cs[j] (List.getElem?_eq_getElem hj), ByteArray.size_append, enc_size _ (h _ (List.getElem_mem hj))]
      omega
    · rw [List.take_of_length_le (by omega)]
      rw [List.take_of_length_le (by omega)] at ih
      omega
def Ou (w : World) (L : Nat) (cs : List C) (e : Ending) (W' : World) : Prop := ∃ g cap, e = .returned (.slice (some ⟨g, 0, none⟩) L cap) ∧ Own W' w.heap.size 23 2 (some g) L cap (flat cs) ∧ Below w.heap.size w W'
theorem ou {w : World} {L : Nat} {cs : List C} {f : FuncId} {args : Array Value} (h : Calls Try.prog f args w (Out w L cs)) : Calls Try.prog f args w (Ou w L cs) := h.mono fun e W' ⟨g, k, h1, _, _, h2, h3⟩ => ⟨g, k, h1, h2, h3⟩
section
variable (W : World) (b : Nat) (h : RdC W 0 (some ⟨b, 0, none⟩) r5)
include h
theorem t0 : Calls Try.prog 6 #[.slice (some ⟨b, 0, none⟩) 5 5, .int .i64 0, .int .i64 2] W (Ou W 5 [(32, 0), (32, 0), (97, 0), (98, 0), (99, 0)]) := ou (u_insert W _ 5 5 r5 rfl (by omega) (by omega) h (by omega) 0 2)
theorem t1 : Calls Try.prog 6 #[.slice (some ⟨b, 0, none⟩) 5 5, .int .i64 4, .int .i64 3] W (Ou W 5 [(97, 0), (98, 0), (99, 0), (100, 0), (32, 0)]) := ou (u_insert W _ 5 5 r5 rfl (by omega) (by omega) h (by omega) 4 3)
theorem t2 : Calls Try.prog 6 #[.slice (some ⟨b, 0, none⟩) 5 5, .int .i64 2, .int .i64 0] W (Ou W 5 [(97, 0), (98, 0), (99, 0), (100, 0), (101, 0)]) := ou (u_insert W _ 5 5 r5 rfl (by omega) (by omega) h (by omega) 2 0)
theorem t3 : Calls Try.prog 6 #[.slice (some ⟨b, 0, none⟩) 5 5, .int .i64 2, .int .i64 (-1)] W (Ou W 5 [(97, 0), (98, 0), (99, 0), (100, 0), (101, 0)]) := ou (u_insert W _ 5 5 r5 rfl (by omega) (by omega) h (by omega) 2 (-1))
theorem t4 : Calls Try.prog 6 #[.slice (some ⟨b, 0, none⟩) 5 5, .int .i64 5, .int .i64 1] W (Ou W 5 [(97, 0), (98, 0), (99, 0), (100, 0), (101, 0)]) := ou (u_insert W _ 5 5 r5 rfl (by omega) (by omega) h (by omega) 5 1)
theorem t5 : Calls Try.prog 6 #[.slice (some ⟨b, 0, none⟩) 5 5, .int .i64 (-1), .int .i64 1] W (Ou W 5 [(97, 0), (98, 0), (99, 0), (100, 0), (101, 0)]) := ou (u_insert W _ 5 5 r5 rfl (by omega) (by omega) h (by omega) (-1) 1)
theorem t6 : Calls Try.prog 6 #[.slice (some ⟨b, 0, none⟩) 5 5, .int .i64 1, .int .i64 99] W (Ou W 5 [(97, 0), (32, 0), (32, 0), (32, 0), (32, 0)]) := ou (u_insert W _ 5 5 r5 rfl (by omega) (by omega) h (by omega) 1 99)
theorem t7 : Calls Try.prog 7 #[.slice (some ⟨b, 0, none⟩) 5 5, .int .i64 0, .int .i64 2] W (Ou W 5 [(99, 0), (100, 0), (101, 0), (32, 0), (32, 0)]) := ou (u_delete W _ 5 5 r5 rfl (by omega) (by omega) h (by omega) 0 2)
theorem t8 : Calls Try.prog 7 #[.slice (some ⟨b, 0, none⟩) 5 5, .int .i64 4, .int .i64 1] W (Ou W 5 [(97, 0), (98, 0), (99, 0), (100, 0), (32, 0)]) := ou (u_delete W _ 5 5 r5 rfl (by omega) (by omega) h (by omega) 4 1)
theorem t9 : Calls Try.prog 7 #[.slice (some ⟨b, 0, none⟩) 5 5, .int .i64 1, .int .i64 99] W (Ou W 5 [(97, 0), (32, 0), (32, 0), (32, 0), (32, 0)]) := ou (u_delete W _ 5 5 r5 rfl (by omega) (by omega) h (by omega) 1 99)
theorem t10 : Calls Try.prog 7 #[.slice (some ⟨b, 0, none⟩) 5 5, .int .i64 5, .int .i64 1] W (Ou W 5 [(97, 0), (98, 0), (99, 0), (100, 0), (101, 0)]) := ou (u_delete W _ 5 5 r5 rfl (by omega) (by omega) h (by omega) 5 1)
theorem t11 : Calls Try.prog 8 #[.slice (some ⟨b, 0, none⟩) 5 5, .int .i64 1, .int .i64 3] W (Ou W 5 [(97, 0), (32, 0), (32, 0), (100, 0), (101, 0)]) := ou (u_clear W _ 5 5 r5 rfl (by omega) h (by omega) 1 3)
theorem t12 : Calls Try.prog 8 #[.slice (some ⟨b, 0, none⟩) 5 5, .int .i64 3, .int .i64 1] W (Ou W 5 [(97, 0), (98, 0), (99, 0), (100, 0), (101, 0)]) := ou (u_clear W _ 5 5 r5 rfl (by omega) h (by omega) 3 1)
theorem t13 : Calls Try.prog 8 #[.slice (some ⟨b, 0, none⟩) 5 5, .int .i64 (-9), .int .i64 99] W (Ou W 5 [(32, 0), (32, 0), (32, 0), (32, 0), (32, 0)]) := ou (u_clear W _ 5 5 r5 rfl (by omega) h (by omega) (-9) 99)
theorem t14 : Calls Try.prog 9 #[.slice (some ⟨b, 0, none⟩) 5 5, .int .i64 3] W (Ou W 3 [(97, 0), (98, 0), (99, 0)]) := ou (u_fit W _ 5 5 r5 rfl h 3 3 rfl (by omega))
theorem t15 : Calls Try.prog 9 #[.slice (some ⟨b, 0, none⟩) 5 5, .int .i64 7] W (Ou W 7 [(97, 0), (98, 0), (99, 0), (100, 0), (101, 0), (32, 0), (32, 0)]) := ou (u_fit W _ 5 5 r5 rfl h 7 7 rfl (by omega))
theorem t16 : Calls Try.prog 9 #[.slice (some ⟨b, 0, none⟩) 5 5, .int .i64 (-1)] W (Ou W 0 []) := (fit_row W _ 5 5 r5 rfl h (-1)).mono fun e W' ⟨g, h1, h2, h3⟩ => ⟨g, 0, h1, h2, h3⟩
theorem t17 : Calls Try.prog 10 #[.slice (some ⟨b, 0, none⟩) 5 5, .int .i64 0, .agg #[.int .i32 122, .int .i64 0]] W (Ou W 5 [(122, 0), (98, 0), (99, 0), (100, 0), (101, 0)]) := ou (u_put W _ 5 5 r5 rfl (by omega) h (by omega) 0 (122, 0))
theorem t18 : Calls Try.prog 10 #[.slice (some ⟨b, 0, none⟩) 5 5, .int .i64 9, .agg #[.int .i32 122, .int .i64 0]] W (Ou W 5 [(97, 0), (98, 0), (99, 0), (100, 0), (101, 0)]) := ou (u_put W _ 5 5 r5 rfl (by omega) h (by omega) 9 (122, 0))
omit h in
theorem t19 : Calls Try.prog 11 #[.int .i64 2] W (Ou W 2 [(32, 0), (32, 0)]) := (u_blank W 2 2 rfl).mono fun e W' ⟨g, h1, h2, h3⟩ => ⟨g, 2, h1, h2, h3⟩
end
set_option maxHeartbeats 32000000 in
set_option maxRecDepth 100000 in
theorem walkR (n0 : Int) (w : World) (_ : (Lit.int .i64 n0).wf = true) :
    Calls Try.prog 3 #[.int .i64 n0] w fun e w' => e = .returned (.bool true) ∧ Below w.heap.size w w' := by
  obtain ⟨X, hX, hX5⟩ := and255 n0
  obtain ⟨i, hi⟩ : ∃ i : Nat, (X : Int) % 20 = (i : Int) := ⟨X % 20, by simp⟩
  have hi20 : i < 20 := by
    have := Int.emod_lt_of_pos (X : Int) (show (0 : Int) < 20 by omega)
    omega
  have HI := hide hi20
  clear hX5
  obtain ⟨rb, hrb⟩ : ∃ rb, rb = w.heap.size := ⟨_, rfl⟩
  have HRB := hide hrb
  go_enter Try.func3, Try.ntmps3
  go_upto_region 2 with fail
  rw [← hrb]
  refine wp_letter (fun W0 => RdC W0 0 (some ⟨rb, 0, none⟩) r5 ∧ Below w.heap.size w W0) ⟨rd_lit (bs_new hrb), be_alloc (be_refl _) (Nat.le_refl _)⟩ ?_
  rintro W0 ⟨hR0, hB0⟩
  have R0 := hide hR0
  have BW := hide hB0
  clear hR0 hB0 hrb
  go_upto_region 3 with (first
    | (go_at_call 6; (with_reducible refine (t0 W0 rb R0.out).mono ?_); rintro e W1 ⟨g0, k0, rfl, hO, hB⟩; have O0 := hide hO; have B0 := hide hB; have R1 := hide (R0.out.below hB); clear hO hB)
    | (go_at_call 6; (with_reducible refine (t1 W1 rb R1.out).mono ?_); rintro e W2 ⟨g1, k1, rfl, hO, hB⟩; have O1 := hide hO; have B1 := hide hB; have R2 := hide (R1.out.below hB); clear hO hB)
    | (go_at_call 6; (with_reducible refine (t2 W2 rb R2.out).mono ?_); rintro e W3 ⟨g2, k2, rfl, hO, hB⟩; have O2 := hide hO; have B2 := hide hB; have R3 := hide (R2.out.below hB); clear hO hB)
    | (go_at_call 6; (with_reducible refine (t3 W3 rb R3.out).mono ?_); rintro e W4 ⟨g3, k3, rfl, hO, hB⟩; have O3 := hide hO; have B3 := hide hB; have R4 := hide (R3.out.below hB); clear hO hB)
    | (go_at_call 6; (with_reducible refine (t4 W4 rb R4.out).mono ?_); rintro e W5 ⟨g4, k4, rfl, hO, hB⟩; have O4 := hide hO; have B4 := hide hB; have R5 := hide (R4.out.below hB); clear hO hB)
    | (go_at_call 6; (with_reducible refine (t5 W5 rb R5.out).mono ?_); rintro e W6 ⟨g5, k5, rfl, hO, hB⟩; have O5 := hide hO; have B5 := hide hB; have R6 := hide (R5.out.below hB); clear hO hB)
    | (go_at_call 6; (with_reducible refine (t6 W6 rb R6.out).mono ?_); rintro e W7 ⟨g6, k6, rfl, hO, hB⟩; have O6 := hide hO; have B6 := hide hB; have R7 := hide (R6.out.below hB); clear hO hB)
    | (go_at_call 7; (with_reducible refine (t7 W7 rb R7.out).mono ?_); rintro e W8 ⟨g7, k7, rfl, hO, hB⟩; have O7 := hide hO; have B7 := hide hB; have R8 := hide (R7.out.below hB); clear hO hB)
    | (go_at_call 7; (with_reducible refine (t8 W8 rb R8.out).mono ?_); rintro e W9 ⟨g8, k8, rfl, hO, hB⟩; have O8 := hide hO; have B8 := hide hB; have R9 := hide (R8.out.below hB); clear hO hB)
    | (go_at_call 7; (with_reducible refine (t9 W9 rb R9.out).mono ?_); rintro e W10 ⟨g9, k9, rfl, hO, hB⟩; have O9 := hide hO; have B9 := hide hB; have R10 := hide (R9.out.below hB); clear hO hB)
    | (go_at_call 7; (with_reducible refine (t10 W10 rb R10.out).mono ?_); rintro e W11 ⟨g10, k10, rfl, hO, hB⟩; have O10 := hide hO; have B10 := hide hB; have R11 := hide (R10.out.below hB); clear hO hB)
    | (go_at_call 8; (with_reducible refine (t11 W11 rb R11.out).mono ?_); rintro e W12 ⟨g11, k11, rfl, hO, hB⟩; have O11 := hide hO; have B11 := hide hB; have R12 := hide (R11.out.below hB); clear hO hB)
    | (go_at_call 8; (with_reducible refine (t12 W12 rb R12.out).mono ?_); rintro e W13 ⟨g12, k12, rfl, hO, hB⟩; have O12 := hide hO; have B12 := hide hB; have R13 := hide (R12.out.below hB); clear hO hB)
    | (go_at_call 8; (with_reducible refine (t13 W13 rb R13.out).mono ?_); rintro e W14 ⟨g13, k13, rfl, hO, hB⟩; have O13 := hide hO; have B13 := hide hB; have R14 := hide (R13.out.below hB); clear hO hB)
    | (go_at_call 9; (with_reducible refine (t14 W14 rb R14.out).mono ?_); rintro e W15 ⟨g14, k14, rfl, hO, hB⟩; have O14 := hide hO; have B14 := hide hB; have R15 := hide (R14.out.below hB); clear hO hB)
    | (go_at_call 9; (with_reducible refine (t15 W15 rb R15.out).mono ?_); rintro e W16 ⟨g15, k15, rfl, hO, hB⟩; have O15 := hide hO; have B15 := hide hB; have R16 := hide (R15.out.below hB); clear hO hB)
    | (go_at_call 9; (with_reducible refine (t16 W16 rb R16.out).mono ?_); rintro e W17 ⟨g16, k16, rfl, hO, hB⟩; have O16 := hide hO; have B16 := hide hB; have R17 := hide (R16.out.below hB); clear hO hB)
    | (go_at_call 10; (with_reducible refine (t17 W17 rb R17.out).mono ?_); rintro e W18 ⟨g17, k17, rfl, hO, hB⟩; have O17 := hide hO; have B17 := hide hB; have R18 := hide (R17.out.below hB); clear hO hB)
    | (go_at_call 10; (with_reducible refine (t18 W18 rb R18.out).mono ?_); rintro e W19 ⟨g18, k18, rfl, hO, hB⟩; have O18 := hide hO; have B18 := hide hB; have R19 := hide (R18.out.below hB); clear hO hB)
    | (go_at_call 11; (with_reducible refine (t19 W19).mono ?_); rintro e W20 ⟨g19, k19, rfl, hO, hB⟩; have O19 := hide hO; have B19 := hide hB; have R20 := hide (R19.out.below hB); clear hO hB))
  have E20 := hide (be_refl W20)
  have E19 := hide (be_call E20.out B19.out.size B19.out)
  have E18 := hide (be_call E19.out B18.out.size B18.out)
  have E17 := hide (be_call E18.out B17.out.size B17.out)
  have E16 := hide (be_call E17.out B16.out.size B16.out)
  have E15 := hide (be_call E16.out B15.out.size B15.out)
  have E14 := hide (be_call E15.out B14.out.size B14.out)
  have E13 := hide (be_call E14.out B13.out.size B13.out)
  have E12 := hide (be_call E13.out B12.out.size B12.out)
  have E11 := hide (be_call E12.out B11.out.size B11.out)
  have E10 := hide (be_call E11.out B10.out.size B10.out)
  have E9 := hide (be_call E10.out B9.out.size B9.out)
  have E8 := hide (be_call E9.out B8.out.size B8.out)
  have E7 := hide (be_call E8.out B7.out.size B7.out)
  have E6 := hide (be_call E7.out B6.out.size B6.out)
  have E5 := hide (be_call E6.out B5.out.size B5.out)
  have E4 := hide (be_call E5.out B4.out.size B4.out)
  have E3 := hide (be_call E4.out B3.out.size B3.out)
  have E2 := hide (be_call E3.out B2.out.size B2.out)
  have E1 := hide (be_call E2.out B1.out.size B1.out)
  have E0 := hide (be_call E1.out B0.out.size B0.out)
  obtain ⟨tb, htb⟩ : ∃ tb, tb = W20.heap.size := ⟨_, rfl⟩
  rw [← htb]
  have pack : ∃ (gg n k : Nat) (cs : List C) (ws : ByteArray), (W20.alloc (.cells #[.slice (some ⟨g0, 0, none⟩) 5 k0, .string ⟨#[32, 32, 97, 98, 99]⟩, .slice (some ⟨g1, 0, none⟩) 5 k1, .string ⟨#[97, 98, 99, 100, 32]⟩, .slice (some ⟨g2, 0, none⟩) 5 k2, .string ⟨#[97, 98, 99, 100, 101]⟩, .slice (some ⟨g3, 0, none⟩) 5 k3, .string ⟨#[97, 98, 99, 100, 101]⟩, .slice (some ⟨g4, 0, none⟩) 5 k4, .string ⟨#[97, 98, 99, 100, 101]⟩, .slice (some ⟨g5, 0, none⟩) 5 k5, .string ⟨#[97, 98, 99, 100, 101]⟩, .slice (some ⟨g6, 0, none⟩) 5 k6, .string ⟨#[97, 32, 32, 32, 32]⟩, .slice (some ⟨g7, 0, none⟩) 5 k7, .string ⟨#[99, 100, 101, 32, 32]⟩, .slice (some ⟨g8, 0, none⟩) 5 k8, .string ⟨#[97, 98, 99, 100, 32]⟩, .slice (some ⟨g9, 0, none⟩) 5 k9, .string ⟨#[97, 32, 32, 32, 32]⟩, .slice (some ⟨g10, 0, none⟩) 5 k10, .string ⟨#[97, 98, 99, 100, 101]⟩, .slice (some ⟨g11, 0, none⟩) 5 k11, .string ⟨#[97, 32, 32, 100, 101]⟩, .slice (some ⟨g12, 0, none⟩) 5 k12, .string ⟨#[97, 98, 99, 100, 101]⟩, .slice (some ⟨g13, 0, none⟩) 5 k13, .string ⟨#[32, 32, 32, 32, 32]⟩, .slice (some ⟨g14, 0, none⟩) 3 k14, .string ⟨#[97, 98, 99]⟩, .slice (some ⟨g15, 0, none⟩) 7 k15, .string ⟨#[97, 98, 99, 100, 101, 32, 32]⟩, .slice (some ⟨g16, 0, none⟩) 0 k16, .string ⟨#[]⟩, .slice (some ⟨g17, 0, none⟩) 5 k17, .string ⟨#[122, 98, 99, 100, 101]⟩, .slice (some ⟨g18, 0, none⟩) 5 k18, .string ⟨#[97, 98, 99, 100, 101]⟩, .slice (some ⟨g19, 0, none⟩) 2 k19, .string ⟨#[32, 32]⟩] 26)).cell? ⟨tb, i * 2, none⟩ = some (.slice (some ⟨gg, 0, none⟩) n k) ∧ (W20.alloc (.cells #[.slice (some ⟨g0, 0, none⟩) 5 k0, .string ⟨#[32, 32, 97, 98, 99]⟩, .slice (some ⟨g1, 0, none⟩) 5 k1, .string ⟨#[97, 98, 99, 100, 32]⟩, .slice (some ⟨g2, 0, none⟩) 5 k2, .string ⟨#[97, 98, 99, 100, 101]⟩, .slice (some ⟨g3, 0, none⟩) 5 k3, .string ⟨#[97, 98, 99, 100, 101]⟩, .slice (some ⟨g4, 0, none⟩) 5 k4, .string ⟨#[97, 98, 99, 100, 101]⟩, .slice (some ⟨g5, 0, none⟩) 5 k5, .string ⟨#[97, 98, 99, 100, 101]⟩, .slice (some ⟨g6, 0, none⟩) 5 k6, .string ⟨#[97, 32, 32, 32, 32]⟩, .slice (some ⟨g7, 0, none⟩) 5 k7, .string ⟨#[99, 100, 101, 32, 32]⟩, .slice (some ⟨g8, 0, none⟩) 5 k8, .string ⟨#[97, 98, 99, 100, 32]⟩, .slice (some ⟨g9, 0, none⟩) 5 k9, .string ⟨#[97, 32, 32, 32, 32]⟩, .slice (some ⟨g10, 0, none⟩) 5 k10, .string ⟨#[97, 98, 99, 100, 101]⟩, .slice (some ⟨g11, 0, none⟩) 5 k11, .string ⟨#[97, 32, 32, 100, 101]⟩, .slice (some ⟨g12, 0, none⟩) 5 k12, .string ⟨#[97, 98, 99, 100, 101]⟩, .slice (some ⟨g13, 0, none⟩) 5 k13, .string ⟨#[32, 32, 32, 32, 32]⟩, .slice (some ⟨g14, 0, none⟩) 3 k14, .string ⟨#[97, 98, 99]⟩, .slice (some ⟨g15, 0, none⟩) 7 k15, .string ⟨#[97, 98, 99, 100, 101, 32, 32]⟩, .slice (some ⟨g16, 0, none⟩) 0 k16, .string ⟨#[]⟩, .slice (some ⟨g17, 0, none⟩) 5 k17, .string ⟨#[122, 98, 99, 100, 101]⟩, .slice (some ⟨g18, 0, none⟩) 5 k18, .string ⟨#[97, 98, 99, 100, 101]⟩, .slice (some ⟨g19, 0, none⟩) 2 k19, .string ⟨#[32, 32]⟩] 26)).cell? ⟨tb, i * 2 + 1, none⟩ = some (.string ws) ∧ cs.length = n ∧ n ≤ 10 ∧ RdC W20 0 (some ⟨gg, 0, none⟩) cs ∧ txt cs = ws ∧ Asc cs := by
    have hb := bs_new (w := W20) (o := .cells #[.slice (some ⟨g0, 0, none⟩) 5 k0, .string ⟨#[32, 32, 97, 98, 99]⟩, .slice (some ⟨g1, 0, none⟩) 5 k1, .string ⟨#[97, 98, 99, 100, 32]⟩, .slice (some ⟨g2, 0, none⟩) 5 k2, .string ⟨#[97, 98, 99, 100, 101]⟩, .slice (some ⟨g3, 0, none⟩) 5 k3, .string ⟨#[97, 98, 99, 100, 101]⟩, .slice (some ⟨g4, 0, none⟩) 5 k4, .string ⟨#[97, 98, 99, 100, 101]⟩, .slice (some ⟨g5, 0, none⟩) 5 k5, .string ⟨#[97, 98, 99, 100, 101]⟩, .slice (some ⟨g6, 0, none⟩) 5 k6, .string ⟨#[97, 32, 32, 32, 32]⟩, .slice (some ⟨g7, 0, none⟩) 5 k7, .string ⟨#[99, 100, 101, 32, 32]⟩, .slice (some ⟨g8, 0, none⟩) 5 k8, .string ⟨#[97, 98, 99, 100, 32]⟩, .slice (some ⟨g9, 0, none⟩) 5 k9, .string ⟨#[97, 32, 32, 32, 32]⟩, .slice (some ⟨g10, 0, none⟩) 5 k10, .string ⟨#[97, 98, 99, 100, 101]⟩, .slice (some ⟨g11, 0, none⟩) 5 k11, .string ⟨#[97, 32, 32, 100, 101]⟩, .slice (some ⟨g12, 0, none⟩) 5 k12, .string ⟨#[97, 98, 99, 100, 101]⟩, .slice (some ⟨g13, 0, none⟩) 5 k13, .string ⟨#[32, 32, 32, 32, 32]⟩, .slice (some ⟨g14, 0, none⟩) 3 k14, .string ⟨#[97, 98, 99]⟩, .slice (some ⟨g15, 0, none⟩) 7 k15, .string ⟨#[97, 98, 99, 100, 101, 32, 32]⟩, .slice (some ⟨g16, 0, none⟩) 0 k16, .string ⟨#[]⟩, .slice (some ⟨g17, 0, none⟩) 5 k17, .string ⟨#[122, 98, 99, 100, 101]⟩, .slice (some ⟨g18, 0, none⟩) 5 k18, .string ⟨#[97, 98, 99, 100, 101]⟩, .slice (some ⟨g19, 0, none⟩) 2 k19, .string ⟨#[32, 32]⟩] 26) htb
    rw [bs_cell hb, bs_cell hb]
    have hc : i = 0 ∨ i = 1 ∨ i = 2 ∨ i = 3 ∨ i = 4 ∨ i = 5 ∨ i = 6 ∨ i = 7 ∨ i = 8 ∨ i = 9 ∨ i = 10 ∨ i = 11 ∨ i = 12 ∨ i = 13 ∨ i = 14 ∨ i = 15 ∨ i = 16 ∨ i = 17 ∨ i = 18 ∨ i = 19 := by omega
    rcases hc with rfl | rfl | rfl | rfl | rfl | rfl | rfl | rfl | rfl | rfl | rfl | rfl | rfl | rfl | rfl | rfl | rfl | rfl | rfl | rfl
    · exact ⟨_, _, _, [(32, 0), (32, 0), (97, 0), (98, 0), (99, 0)], _, rfl, rfl, rfl, by omega, (Rd.of (O0.out.below E1.out)).lower (Nat.zero_le _), by decide +kernel, by unfold Asc; simp⟩
    · exact ⟨_, _, _, [(97, 0), (98, 0), (99, 0), (100, 0), (32, 0)], _, rfl, rfl, rfl, by omega, (Rd.of (O1.out.below E2.out)).lower (Nat.zero_le _), by decide +kernel, by unfold Asc; simp⟩
    · exact ⟨_, _, _, [(97, 0), (98, 0), (99, 0), (100, 0), (101, 0)], _, rfl, rfl, rfl, by omega, (Rd.of (O2.out.below E3.out)).lower (Nat.zero_le _), by decide +kernel, by unfold Asc; simp⟩
    · exact ⟨_, _, _, [(97, 0), (98, 0), (99, 0), (100, 0), (101, 0)], _, rfl, rfl, rfl, by omega, (Rd.of (O3.out.below E4.out)).lower (Nat.zero_le _), by decide +kernel, by unfold Asc; simp⟩
    · exact ⟨_, _, _, [(97, 0), (98, 0), (99, 0), (100, 0), (101, 0)], _, rfl, rfl, rfl, by omega, (Rd.of (O4.out.below E5.out)).lower (Nat.zero_le _), by decide +kernel, by unfold Asc; simp⟩
    · exact ⟨_, _, _, [(97, 0), (98, 0), (99, 0), (100, 0), (101, 0)], _, rfl, rfl, rfl, by omega, (Rd.of (O5.out.below E6.out)).lower (Nat.zero_le _), by decide +kernel, by unfold Asc; simp⟩
    · exact ⟨_, _, _, [(97, 0), (32, 0), (32, 0), (32, 0), (32, 0)], _, rfl, rfl, rfl, by omega, (Rd.of (O6.out.below E7.out)).lower (Nat.zero_le _), by decide +kernel, by unfold Asc; simp⟩
    · exact ⟨_, _, _, [(99, 0), (100, 0), (101, 0), (32, 0), (32, 0)], _, rfl, rfl, rfl, by omega, (Rd.of (O7.out.below E8.out)).lower (Nat.zero_le _), by decide +kernel, by unfold Asc; simp⟩
    · exact ⟨_, _, _, [(97, 0), (98, 0), (99, 0), (100, 0), (32, 0)], _, rfl, rfl, rfl, by omega, (Rd.of (O8.out.below E9.out)).lower (Nat.zero_le _), by decide +kernel, by unfold Asc; simp⟩
    · exact ⟨_, _, _, [(97, 0), (32, 0), (32, 0), (32, 0), (32, 0)], _, rfl, rfl, rfl, by omega, (Rd.of (O9.out.below E10.out)).lower (Nat.zero_le _), by decide +kernel, by unfold Asc; simp⟩
    · exact ⟨_, _, _, [(97, 0), (98, 0), (99, 0), (100, 0), (101, 0)], _, rfl, rfl, rfl, by omega, (Rd.of (O10.out.below E11.out)).lower (Nat.zero_le _), by decide +kernel, by unfold Asc; simp⟩
    · exact ⟨_, _, _, [(97, 0), (32, 0), (32, 0), (100, 0), (101, 0)], _, rfl, rfl, rfl, by omega, (Rd.of (O11.out.below E12.out)).lower (Nat.zero_le _), by decide +kernel, by unfold Asc; simp⟩
    · exact ⟨_, _, _, [(97, 0), (98, 0), (99, 0), (100, 0), (101, 0)], _, rfl, rfl, rfl, by omega, (Rd.of (O12.out.below E13.out)).lower (Nat.zero_le _), by decide +kernel, by unfold Asc; simp⟩
    · exact ⟨_, _, _, [(32, 0), (32, 0), (32, 0), (32, 0), (32, 0)], _, rfl, rfl, rfl, by omega, (Rd.of (O13.out.below E14.out)).lower (Nat.zero_le _), by decide +kernel, by unfold Asc; simp⟩
    · exact ⟨_, _, _, [(97, 0), (98, 0), (99, 0)], _, rfl, rfl, rfl, by omega, (Rd.of (O14.out.below E15.out)).lower (Nat.zero_le _), by decide +kernel, by unfold Asc; simp⟩
    · exact ⟨_, _, _, [(97, 0), (98, 0), (99, 0), (100, 0), (101, 0), (32, 0), (32, 0)], _, rfl, rfl, rfl, by omega, (Rd.of (O15.out.below E16.out)).lower (Nat.zero_le _), by decide +kernel, by unfold Asc; simp⟩
    · exact ⟨_, _, _, [], _, rfl, rfl, rfl, by omega, (Rd.of (O16.out.below E17.out)).lower (Nat.zero_le _), by decide +kernel, by unfold Asc; simp⟩
    · exact ⟨_, _, _, [(122, 0), (98, 0), (99, 0), (100, 0), (101, 0)], _, rfl, rfl, rfl, by omega, (Rd.of (O17.out.below E18.out)).lower (Nat.zero_le _), by decide +kernel, by unfold Asc; simp⟩
    · exact ⟨_, _, _, [(97, 0), (98, 0), (99, 0), (100, 0), (101, 0)], _, rfl, rfl, rfl, by omega, (Rd.of (O18.out.below E19.out)).lower (Nat.zero_le _), by decide +kernel, by unfold Asc; simp⟩
    · exact ⟨_, _, _, [(32, 0), (32, 0)], _, rfl, rfl, rfl, by omega, (Rd.of (O19.out.below E20.out)).lower (Nat.zero_le _), by decide +kernel, by unfold Asc; simp⟩
  obtain ⟨gg, n, k, cs, ws, x0, x1, hn, hn10, hrc, hw, ha⟩ := pack
  have B20 := hide (be_call E0.out BW.out.size BW.out)
  have XX := hide (And.intro x0 x1)
  have TB := hide htb
  have LL := hide (show Below w.heap.size w (W20.alloc (.cells #[.slice (some ⟨g0, 0, none⟩) 5 k0, .string ⟨#[32, 32, 97, 98, 99]⟩, .slice (some ⟨g1, 0, none⟩) 5 k1, .string ⟨#[97, 98, 99, 100, 32]⟩, .slice (some ⟨g2, 0, none⟩) 5 k2, .string ⟨#[97, 98, 99, 100, 101]⟩, .slice (some ⟨g3, 0, none⟩) 5 k3, .string ⟨#[97, 98, 99, 100, 101]⟩, .slice (some ⟨g4, 0, none⟩) 5 k4, .string ⟨#[97, 98, 99, 100, 101]⟩, .slice (some ⟨g5, 0, none⟩) 5 k5, .string ⟨#[97, 98, 99, 100, 101]⟩, .slice (some ⟨g6, 0, none⟩) 5 k6, .string ⟨#[97, 32, 32, 32, 32]⟩, .slice (some ⟨g7, 0, none⟩) 5 k7, .string ⟨#[99, 100, 101, 32, 32]⟩, .slice (some ⟨g8, 0, none⟩) 5 k8, .string ⟨#[97, 98, 99, 100, 32]⟩, .slice (some ⟨g9, 0, none⟩) 5 k9, .string ⟨#[97, 32, 32, 32, 32]⟩, .slice (some ⟨g10, 0, none⟩) 5 k10, .string ⟨#[97, 98, 99, 100, 101]⟩, .slice (some ⟨g11, 0, none⟩) 5 k11, .string ⟨#[97, 32, 32, 100, 101]⟩, .slice (some ⟨g12, 0, none⟩) 5 k12, .string ⟨#[97, 98, 99, 100, 101]⟩, .slice (some ⟨g13, 0, none⟩) 5 k13, .string ⟨#[32, 32, 32, 32, 32]⟩, .slice (some ⟨g14, 0, none⟩) 3 k14, .string ⟨#[97, 98, 99]⟩, .slice (some ⟨g15, 0, none⟩) 7 k15, .string ⟨#[97, 98, 99, 100, 101, 32, 32]⟩, .slice (some ⟨g16, 0, none⟩) 0 k16, .string ⟨#[]⟩, .slice (some ⟨g17, 0, none⟩) 5 k17, .string ⟨#[122, 98, 99, 100, 101]⟩, .slice (some ⟨g18, 0, none⟩) 5 k18, .string ⟨#[97, 98, 99, 100, 101]⟩, .slice (some ⟨g19, 0, none⟩) 2 k19, .string ⟨#[32, 32]⟩] 26)) ∧ RdC (W20.alloc (.cells #[.slice (some ⟨g0, 0, none⟩) 5 k0, .string ⟨#[32, 32, 97, 98, 99]⟩, .slice (some ⟨g1, 0, none⟩) 5 k1, .string ⟨#[97, 98, 99, 100, 32]⟩, .slice (some ⟨g2, 0, none⟩) 5 k2, .string ⟨#[97, 98, 99, 100, 101]⟩, .slice (some ⟨g3, 0, none⟩) 5 k3, .string ⟨#[97, 98, 99, 100, 101]⟩, .slice (some ⟨g4, 0, none⟩) 5 k4, .string ⟨#[97, 98, 99, 100, 101]⟩, .slice (some ⟨g5, 0, none⟩) 5 k5, .string ⟨#[97, 98, 99, 100, 101]⟩, .slice (some ⟨g6, 0, none⟩) 5 k6, .string ⟨#[97, 32, 32, 32, 32]⟩, .slice (some ⟨g7, 0, none⟩) 5 k7, .string ⟨#[99, 100, 101, 32, 32]⟩, .slice (some ⟨g8, 0, none⟩) 5 k8, .string ⟨#[97, 98, 99, 100, 32]⟩, .slice (some ⟨g9, 0, none⟩) 5 k9, .string ⟨#[97, 32, 32, 32, 32]⟩, .slice (some ⟨g10, 0, none⟩) 5 k10, .string ⟨#[97, 98, 99, 100, 101]⟩, .slice (some ⟨g11, 0, none⟩) 5 k11, .string ⟨#[97, 32, 32, 100, 101]⟩, .slice (some ⟨g12, 0, none⟩) 5 k12, .string ⟨#[97, 98, 99, 100, 101]⟩, .slice (some ⟨g13, 0, none⟩) 5 k13, .string ⟨#[32, 32, 32, 32, 32]⟩, .slice (some ⟨g14, 0, none⟩) 3 k14, .string ⟨#[97, 98, 99]⟩, .slice (some ⟨g15, 0, none⟩) 7 k15, .string ⟨#[97, 98, 99, 100, 101, 32, 32]⟩, .slice (some ⟨g16, 0, none⟩) 0 k16, .string ⟨#[]⟩, .slice (some ⟨g17, 0, none⟩) 5 k17, .string ⟨#[122, 98, 99, 100, 101]⟩, .slice (some ⟨g18, 0, none⟩) 5 k18, .string ⟨#[97, 98, 99, 100, 101]⟩, .slice (some ⟨g19, 0, none⟩) 2 k19, .string ⟨#[32, 32]⟩] 26)) 0 (some ⟨gg, 0, none⟩) cs from ⟨be_alloc B20.out B20.out.size, hrc.below (be_alloc (be_refl _) (Nat.le_refl _))⟩)
  have HN := hide hn
  have HW := hide hw
  have HA := hide ha
  clear htb hn hrc hw ha
  generalize W20.alloc (.cells #[.slice (some ⟨g0, 0, none⟩) 5 k0, .string ⟨#[32, 32, 97, 98, 99]⟩, .slice (some ⟨g1, 0, none⟩) 5 k1, .string ⟨#[97, 98, 99, 100, 32]⟩, .slice (some ⟨g2, 0, none⟩) 5 k2, .string ⟨#[97, 98, 99, 100, 101]⟩, .slice (some ⟨g3, 0, none⟩) 5 k3, .string ⟨#[97, 98, 99, 100, 101]⟩, .slice (some ⟨g4, 0, none⟩) 5 k4, .string ⟨#[97, 98, 99, 100, 101]⟩, .slice (some ⟨g5, 0, none⟩) 5 k5, .string ⟨#[97, 98, 99, 100, 101]⟩, .slice (some ⟨g6, 0, none⟩) 5 k6, .string ⟨#[97, 32, 32, 32, 32]⟩, .slice (some ⟨g7, 0, none⟩) 5 k7, .string ⟨#[99, 100, 101, 32, 32]⟩, .slice (some ⟨g8, 0, none⟩) 5 k8, .string ⟨#[97, 98, 99, 100, 32]⟩, .slice (some ⟨g9, 0, none⟩) 5 k9, .string ⟨#[97, 32, 32, 32, 32]⟩, .slice (some ⟨g10, 0, none⟩) 5 k10, .string ⟨#[97, 98, 99, 100, 101]⟩, .slice (some ⟨g11, 0, none⟩) 5 k11, .string ⟨#[97, 32, 32, 100, 101]⟩, .slice (some ⟨g12, 0, none⟩) 5 k12, .string ⟨#[97, 98, 99, 100, 101]⟩, .slice (some ⟨g13, 0, none⟩) 5 k13, .string ⟨#[32, 32, 32, 32, 32]⟩, .slice (some ⟨g14, 0, none⟩) 3 k14, .string ⟨#[97, 98, 99]⟩, .slice (some ⟨g15, 0, none⟩) 7 k15, .string ⟨#[97, 98, 99, 100, 101, 32, 32]⟩, .slice (some ⟨g16, 0, none⟩) 0 k16, .string ⟨#[]⟩, .slice (some ⟨g17, 0, none⟩) 5 k17, .string ⟨#[122, 98, 99, 100, 101]⟩, .slice (some ⟨g18, 0, none⟩) 5 k18, .string ⟨#[97, 98, 99, 100, 101]⟩, .slice (some ⟨g19, 0, none⟩) 2 k19, .string ⟨#[32, 32]⟩] 26) = W21 at *
  go_upto_region 4 with fail
  obtain ⟨xb, hxb⟩ : ∃ xb, xb = W21.heap.size := ⟨_, rfl⟩
  rw [← hxb]
  refine wp_letter (fun M => Below w.heap.size w M ∧ RdC M 0 (some ⟨gg, 0, none⟩) cs ∧ M.heap[xb]? = some (.cells #[.slice (some ⟨gg, 0, none⟩) n k, .string ws] 26 (0, 0))) ⟨be_alloc LL.out.1 LL.out.1.size, LL.out.2.below (be_alloc (be_refl _) (Nat.le_refl _)), bs_new hxb⟩ ?_
  rintro M ⟨hM1, hM2, hM3⟩
  have M1 := hide hM1
  have M2 := hide hM2
  have M3 := hide hM3
  have y0 : M.cell? ⟨xb, 0, none⟩ = some (.slice (some ⟨gg, 0, none⟩) n k) := (bs_cell hM3 0).trans rfl
  clear x0 x1 hxb hM1 hM2 hM3 hi hX
  go_wp2
  go_loopw [6, 88] (fun v6 v88 wr => ∃ j : Nat, j ≤ n ∧ v88 = .int .i64 (j : Int) ∧ v6 = .string (txt (cs.take j)) ∧ Below M.heap.size M wr) (fun _ v88 _ => (n - intOf v88).toNat)
  case atStart => exact ⟨0, Nat.zero_le _, rfl, rfl, be_refl _⟩
  case round =>
    obtain ⟨j, hj, rfl, rfl, hB⟩ := hrel
    have B6 := hide hB
    by_cases hlt : j < n
    · have p1 : ((j : Int) < (n : Int)) = True := eq_true (by omega)
      have p0 : (0 : Int) ≤ (j : Int) := by omega
      have p2 : (j : Int) < (n : Int) := by omega
      obtain ⟨⟨c1, c2⟩, hc⟩ : ∃ e, cs[j]? = some e := ⟨_, List.getElem?_eq_getElem (by have := HN.out; omega)⟩
      obtain ⟨a, e, _, z0, z1⟩ := RdC.at_ (M2.out.below hB) hc
      cases e
      rw [add_head] at z0 z1
      have HT := hide (txt_succ cs j _ hc)
      have hsz : (9223372036854775807 < (txt (cs.take j)).size + (Utf8.encode c1).size) = False := eq_false (by have h1 := txt_size cs HA.out j; have h2 := enc_size c1 (HA.out _ (List.mem_of_getElem? hc)); omega)
      obtain ⟨sj, hsj⟩ : ∃ sj, sj = txt (cs.take j) := ⟨_, rfl⟩
      rw [← hsj] at hsz HT ⊢
      have HJ := hide (And.intro hlt hn10)
      clear hc hB hlt hj hsj
      go_wp2
      refine ⟨⟨j + 1, by have := HJ.out; omega, by simp, by rw [HT.out], be_alloc B6.out B6.out.size⟩, ?_⟩
      simp only [intOf]; have := HJ.out; omega
    · have p1 : ((j : Int) < (n : Int)) = False := eq_false (by omega)
      have hjn : cs.take j = cs := List.take_of_length_le (by have := HN.out; omega)
      rw [hjn, HW.out]
      have z1 : wr.cell? ⟨xb, 1, none⟩ = some (.string ws) := by
        have h := bs_below hB (bs_lt M3.out) M3.out
        exact (bs_cell h 1).trans rfl
      clear hjn hB hlt hj
      go_wp2_with (go_at_call 12; refine (awake_calls _).mono ?_; rintro e W30 ⟨rfl, hb30⟩)
      go_ret
      have B7 := be_call B6.out M1.out.size M1.out
      exact ⟨rfl, be_call hb30 B7.size B7⟩
end Go.Proofs.Yteelcbjapbhogaa.RowsFormsW

