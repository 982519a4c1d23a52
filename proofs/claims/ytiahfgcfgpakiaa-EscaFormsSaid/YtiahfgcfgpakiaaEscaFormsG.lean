/- EscaForms: what each operation of the table brings about. -/
import Derived.Test.YtiahfgcfgpakiaaEscaFormsM
import Derived.Test.YtiahfgcfgpakiaaSeq
import Derived.Test.YtiahfgcfgpakiaaEscaUse
namespace Go.Proofs.Ytiahfgcfgpakiaa.EscaFormsW
open Go Go.RowKit Go.Proofs.YtiahfgcfgpakiaaKit Go.Proofs.Ytiahfgcfgpakiaa.Mem Go.Proofs.YtiahfgcfgpakiaaW.PrintWords Go.Proofs.YtiahfgcfgpakiaaW.PrintLast Go.Proofs.Ytiahfgcfgpakiaa.Split Go.Proofs.Ytiahfgcfgpakiaa.EscaVal Go.Proofs.Ytiahfgcfgpakiaa.Facts Go.Proofs.Ytiahfgcfgpakiaa.EscaFormsM
set_option linter.unusedVariables false
set_option linter.unusedSimpArgs false
def IsInts (l : List Int) (v : Value) (W : World) : Prop := ∃ b, v = .slice (some ⟨b, 0, none⟩) l.length l.length ∧ W.heap[b]? = some (.cells (l.map (Value.int .i64)).toArray 3 (0, 0))
def IsAct (a : Act3) (v : Value) (W : World) : Prop := ∃ (oa : Option Addr) (c : Nat), v = .agg #[.int .i64 a.1, .int .i32 a.2.1, .slice oa a.2.2.length c] ∧ Rd W 0 oa (a.2.2.map (.int .i64))
def IsActs (l : List Act3) (v : Value) (W : World) : Prop := ∃ (o : Option Addr) (lb : Option Nat) (ds : List ActD), v = .slice o l.length l.length ∧ sl lb l.length l.length = .slice o l.length l.length ∧ AR W lb l ds
def IsRowK (s : ByteArray) (l : List Act3) (v : Value) (W : World) : Prop := ∃ u, v = .agg #[.string s, u] ∧ IsActs l u W
def IsTab (v : Value) (W : World) : Prop := ∃ (b : Nat) (cs : Array Value), v = .slice (some ⟨b, 0, none⟩) 30 30 ∧ W.heap[b]? = some (.cells cs 28 (0, 0)) ∧ ∀ k, k ≤ 29 → ∃ u, cs[2 * k]? = some (.string (strK k)) ∧ cs[2 * k + 1]? = some u ∧ IsActs (actsK k) u W
theorem IsInts.below {l v} {W W' : World} (h : IsInts l v W) (hb : Below W.heap.size W W') : IsInts l v W' := by
  obtain ⟨b, h1, h2⟩ := h
  exact ⟨b, h1, at_below hb h2⟩
theorem IsAct.below {a v} {W W' : World} (h : IsAct a v W) (hb : Below W.heap.size W W') : IsAct a v W' := by
  obtain ⟨oa, c, h1, h2⟩ := h
  exact ⟨oa, c, h1, h2.below hb⟩
theorem IsActs.below {l v} {W W' : World} (h : IsActs l v W) (hb : Below W.heap.size W W') : IsActs l v W' := by
  obtain ⟨o, lb, ds, h1, h2, h3⟩ := h
  exact ⟨o, lb, ds, h1, h2, h3.below hb⟩
theorem IsRowK.below {s l v} {W W' : World} (h : IsRowK s l v W) (hb : Below W.heap.size W W') : IsRowK s l v W' := by
  obtain ⟨u, h1, h2⟩ := h
  exact ⟨u, h1, h2.below hb⟩
theorem IsTab.below {v} {W W' : World} (h : IsTab v W) (hb : Below W.heap.size W W') : IsTab v W' := by
  obtain ⟨b, cs, h1, h2, h3⟩ := h
  exact ⟨b, cs, h1, at_below hb h2, fun k hk => by obtain ⟨u, q1, q2, q3⟩ := h3 k hk; exact ⟨u, q1, q2, q3.below hb⟩⟩
inductive Sp where
  | fn (f : Nat)
  | ints (l : List Int)
  | act (a : Act3)
  | acts (l : List Act3)
  | row (s : ByteArray) (l : List Act3)
  | tab
def SpG (s : Option Sp) (v : Value) (W : World) : Prop := match s with
  | some (.fn f) => v = .func (.func f) #[] #[]
  | some (.ints l) => IsInts l v W
  | some (.act a) => IsAct a v W
  | some (.acts l) => IsActs l v W
  | some (.row s l) => IsRowK s l v W
  | some .tab => IsTab v W
  | none => True
theorem SpG.below {s v} {W W' : World} (h : SpG s v W) (hb : Below W.heap.size W W') : SpG s v W' := by
  unfold SpG at h ⊢
  split at h
  all_goals first
    | exact h
    | exact IsInts.below h hb
    | exact IsAct.below h hb
    | exact IsActs.below h hb
    | exact IsRowK.below h hb
    | exact IsTab.below h hb
theorem p_val (r : Int) (w : World) : Calls Try.prog 8 #[.int .i32 r] w fun e w' => e = .returned (.agg #[.int .i64 1, .int .i32 r, .slice none 0 0]) ∧ Below w.heap.size w w' := by
  go_enter Try.func8, Try.ntmps8
  go_wp2
  refine bodyPost_ret (results_cell_row rfl _ _ w.heap.size 24 #[.int .i64 1, .int .i32 r, .slice none 0 0] (0, 0) _ rfl ?_ Try.underlying24 rfl (by kernel_rfl)) rfl ?_
  · exact bs_new rfl
  · exact ⟨rfl, be_alloc (be_refl _) (Nat.le_refl _)⟩
theorem k_val (r : Int) (w : World) : Calls Try.prog 10 #[.int .i32 r] w fun e w' => e = .returned (.agg #[.int .i64 2, .int .i32 r, .slice none 0 0]) ∧ Below w.heap.size w w' := by
  go_enter Try.func10, Try.ntmps10
  go_wp2
  refine bodyPost_ret (results_cell_row rfl _ _ w.heap.size 24 #[.int .i64 2, .int .i32 r, .slice none 0 0] (0, 0) _ rfl ?_ Try.underlying24 rfl (by kernel_rfl)) rfl ?_
  · exact bs_new rfl
  · exact ⟨rfl, be_alloc (be_refl _) (Nat.le_refl _)⟩
theorem c_val (r : Int) (oa : Option Addr) (n c : Nat) (w : World) : Calls Try.prog 9 #[.int .i32 r, .slice oa n c] w fun e w' => e = .returned (.agg #[.int .i64 4, .int .i32 r, .slice oa n c]) ∧ Below w.heap.size w w' := by
  go_enter Try.func9, Try.ntmps9
  go_wp2
  refine bodyPost_ret (results_cell_row rfl _ _ w.heap.size 24 #[.int .i64 4, .int .i32 r, .slice oa n c] (0, 0) _ rfl ?_ Try.underlying24 rfl (by kernel_rfl)) rfl ?_
  · exact bs_new rfl
  · exact ⟨rfl, be_alloc (be_refl _) (Nat.le_refl _)⟩
def specs : List Sp := [.fn 8, .act (1, 97, []), .acts [(1, 97, [])], .row ⟨#[97]⟩ [(1, 97, [])], .row ⟨#[1, 31, 127]⟩ [], .fn 10, .act (2, 7, []), .fn 10, .act (2, 8, []), .fn 10, .act (2, 13, []), .acts [(2, 7, []), (2, 8, []), (2, 13, [])], .row ⟨#[7, 8, 13]⟩ [(2, 7, []), (2, 8, []), (2, 13, [])], .fn 9, .act (4, 65, []), .acts [(4, 65, [])], .row ⟨#[27, 91, 65]⟩ [(4, 65, [])], .fn 9, .ints [0], .act (4, 65, [0]), .acts [(4, 65, [0])], .row ⟨#[27, 91, 48, 65]⟩ [(4, 65, [0])], .fn 9, .ints [(-1), (-1)], .act (4, 65, [(-1), (-1)]), .acts [(4, 65, [(-1), (-1)])], .row ⟨#[27, 91, 59, 65]⟩ [(4, 65, [(-1), (-1)])], .fn 9, .ints [(-1), (-1), (-1)], .act (4, 65, [(-1), (-1), (-1)]), .acts [(4, 65, [(-1), (-1), (-1)])], .row ⟨#[27, 91, 59, 59, 65]⟩ [(4, 65, [(-1), (-1), (-1)])], .fn 9, .ints [1, (-1)], .act (4, 65, [1, (-1)]), .acts [(4, 65, [1, (-1)])], .row ⟨#[27, 91, 49, 59, 65]⟩ [(4, 65, [1, (-1)])], .fn 9, .ints [1, 2], .act (4, 65, [1, 2]), .acts [(4, 65, [1, 2])], .row ⟨#[27, 91, 49, 59, 50, 65]⟩ [(4, 65, [1, 2])], .fn 9, .ints [65535], .act (4, 65, [65535]), .acts [(4, 65, [65535])], .row ⟨#[27, 91, 55, 48, 48, 48, 48, 65]⟩ [(4, 65, [65535])], .row ⟨#[27, 91, 49, 58, 50, 65]⟩ [], .row ⟨#[27, 91, 62, 49, 65]⟩ [], .row ⟨#[27, 91, 49, 32, 65]⟩ [], .act (5, 65, []), .acts [(5, 65, [])], .row ⟨#[27, 91, 63, 65]⟩ [(5, 65, [])], .ints [1, 2], .act (5, 104, [1, 2]), .acts [(5, 104, [1, 2])], .row ⟨#[27, 91, 63, 49, 59, 50, 104]⟩ [(5, 104, [1, 2])], .row ⟨#[27, 91, 63, 63, 65]⟩ [], .fn 10, .act (2, 8, []), .fn 9, .ints [1], .act (4, 65, [1]), .acts [(2, 8, []), (4, 65, [1])], .row ⟨#[27, 91, 49, 8, 65]⟩ [(2, 8, []), (4, 65, [1])], .fn 8, .act (1, 65, []), .acts [(1, 65, [])], .row ⟨#[27, 91, 49, 24, 65]⟩ [(1, 65, [])], .fn 9, .ints [2], .act (4, 65, [2]), .acts [(4, 65, [2])], .row ⟨#[27, 91, 49, 27, 91, 50, 65]⟩ [(4, 65, [2])], .act (3, 55, []), .acts [(3, 55, [])], .row ⟨#[27, 55]⟩ [(3, 55, [])], .fn 8, .act (1, 97, []), .acts [(1, 97, [])], .row ⟨#[27, 40, 66, 97]⟩ [(1, 97, [])], .fn 10, .act (2, 7, []), .act (3, 99, []), .acts [(2, 7, []), (3, 99, [])], .row ⟨#[27, 7, 99]⟩ [(2, 7, []), (3, 99, [])], .act (3, 99, []), .acts [(3, 99, [])], .row ⟨#[27, 27, 99]⟩ [(3, 99, [])], .fn 8, .act (1, 100, []), .acts [(1, 100, [])], .row ⟨#[27, 93, 48, 59, 97, 98, 99, 7, 100]⟩ [(1, 100, [])], .fn 8, .act (1, 100, []), .acts [(1, 100, [])], .row ⟨#[27, 93, 48, 59, 97, 98, 99, 27, 92, 100]⟩ [(1, 100, [])], .fn 8, .act (1, 101, []), .acts [(1, 101, [])], .row ⟨#[27, 80, 97, 98, 99, 27, 100, 24, 101]⟩ [(1, 101, [])], .fn 8, .act (1, 97, []), .acts [(1, 97, [])], .row ⟨#[27, 255, 97]⟩ [(1, 97, [])], .row ⟨#[194, 133]⟩ [], .fn 8, .act (1, 65533, []), .fn 9, .act (4, 65, []), .acts [(1, 65533, []), (4, 65, [])], .row ⟨#[195, 27, 91, 65]⟩ [(1, 65533, []), (4, 65, [])], .fn 9, .act (4, 65, []), .acts [(4, 65, [])], .row ⟨#[27, 91, 128, 65]⟩ [(4, 65, [])], .tab, .tab]
def dsts : List Nat := [10, 11, 12, 13, 14, 15, 16, 17, 18, 19, 20, 21, 22, 23, 24, 25, 26, 27, 28, 29, 30, 31, 32, 33, 34, 35, 36, 37, 38, 39, 40, 41, 42, 43, 44, 45, 46, 47, 48, 49, 50, 51, 52, 53, 54, 55, 56, 57, 58, 59, 60, 61, 62, 63, 64, 65, 66, 67, 68, 69, 70, 71, 72, 73, 74, 75, 76, 77, 78, 79, 80, 81, 82, 83, 84, 85, 86, 87, 88, 89, 90, 91, 92, 93, 94, 95, 96, 97, 98, 99, 100, 101, 102, 103, 104, 105, 106, 107, 108, 109, 110, 111, 112, 113, 114, 115, 116, 117, 118, 119, 120, 121, 122, 123, 124, 125, 126, 6]
def G4 (i : Nat) (v : Value) (W : World) : Prop := SpG specs[i]? v W
end Go.Proofs.Ytiahfgcfgpakiaa.EscaFormsW


