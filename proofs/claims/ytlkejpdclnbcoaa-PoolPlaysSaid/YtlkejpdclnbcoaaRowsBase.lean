/- Rows of cells: words for them, and what blank, in and slices.Clone do: contracts, without a condition of their own. -/
import Derived.StillTailTactics
import Derived.Deep.RegionHeld3
import Derived.Lib.SliceRun
import Derived.Test.YtlkejpdclnbcoaaMem
import Derived.Test.YtlkejpdclnbcoaaProg
namespace Go.Proofs.Ytlkejpdclnbcoaa.RowsBase
open Go Go.RowKit Go.Proofs.YtlkejpdclnbcoaaKit Go.Proofs.Ytlkejpdclnbcoaa.Mem
attribute [local go_sem] cell_alloc_some cell_alloc2_some cell_alloc3_some cell_alloc4_some
set_option linter.unusedVariables false
set_option linter.unusedSimpArgs false
abbrev C := Int × Int
def flat (xs : List C) : List Value := xs.flatMap fun x => [.int .i32 x.1, .int .i64 x.2]
def blk : C := (32, 0)
theorem flat_nil : flat [] = [] := rfl
theorem flat_cons (b : C) (bs : List C) : flat (b :: bs) = .int .i32 b.1 :: .int .i64 b.2 :: flat bs := by simp [flat]
theorem flat_append (a b : List C) : flat (a ++ b) = flat a ++ flat b := by simp [flat]
theorem flat_len (bs : List C) : (flat bs).length = bs.length * 2 := by
  induction bs with
  | nil => rfl
  | cons b bs ih => rw [flat_cons, List.length_cons, List.length_cons, ih, List.length_cons]; omega
theorem flat_take (bs : List C) (k : Nat) : (flat bs).take (k * 2) = flat (bs.take k) := by
  induction bs generalizing k with
  | nil => simp [flat]
  | cons b bs ih =>
    cases k with
    | zero => simp [flat]
    | succ k => rw [flat_cons, show (k + 1) * 2 = k * 2 + 1 + 1 by omega, List.take_succ_cons, List.take_succ_cons, ih, List.take_succ_cons, flat_cons]
theorem flat_drop (bs : List C) (k : Nat) : (flat bs).drop (k * 2) = flat (bs.drop k) := by
  induction bs generalizing k with
  | nil => simp [flat]
  | cons b bs ih =>
    cases k with
    | zero => simp
    | succ k => rw [flat_cons, show (k + 1) * 2 = k * 2 + 1 + 1 by omega, List.drop_succ_cons, List.drop_succ_cons, ih, List.drop_succ_cons]
theorem flat_get (bs : List C) (i : Nat) (b : C) (hb : bs[i]? = some b) : (flat bs)[i * 2]? = some (.int .i32 b.1) ∧ (flat bs)[i * 2 + 1]? = some (.int .i64 b.2) := by
  induction bs generalizing i with
  | nil => simp at hb
  | cons b0 bs ih =>
    rw [flat_cons]
    cases i with
    | zero => simp at hb; subst hb; simp
    | succ i =>
      simp at hb
      have h := ih i hb
      rw [show (i + 1) * 2 = i * 2 + 1 + 1 by omega]
      simpa using h
theorem flat_set (bs : List C) (i : Nat) (b : C) : ((flat bs).set (i * 2) (.int .i32 b.1)).set (i * 2 + 1) (.int .i64 b.2) = flat (bs.set i b) := by
  induction bs generalizing i with
  | nil => simp [flat]
  | cons b0 bs ih =>
    cases i with
    | zero => simp [flat_cons]
    | succ i => rw [flat_cons, show (i + 1) * 2 = i * 2 + 1 + 1 by omega, List.set_cons_succ, List.set_cons_succ, List.set_cons_succ, List.set_cons_succ, ih, List.set_cons_succ, flat_cons]
theorem flat_splice (a b : List C) (k : Nat) : splice (flat a) (k * 2) (flat b) = flat (splice a k b) := by
  unfold splice
  rw [flat_take, flat_append, flat_append, flat_len, ← Nat.add_mul, flat_drop]
theorem flat_one (bs : List C) : ∀ u ∈ flat bs, u.oneCell' = true := by
  intro u hu
  obtain ⟨b, _, hb⟩ := List.mem_flatMap.1 hu
  simp at hb
  rcases hb with rfl | rfl <;> rfl
theorem cellInfo : (Try.prog.info? 49).map (fun i => (i.zero, i.size, i.bytes)) = some (some (.agg #[.int .i32 0, .int .i64 0]), 2, 16) := by kernel_rfl
theorem cellSize : (Try.prog.info? 49).map (·.size) = some 2 := by kernel_rfl
/-- A row of cells that is owned, that may be read. -/
abbrev OwnC (W : World) (base : Nat) (lb : Option Nat) (cap : Nat) (cs : List C) : Prop := Own W base 49 2 lb cs.length cap (flat cs)
abbrev RdC (W : World) (lo : Nat) (oa : Option Addr) (cs : List C) : Prop := Rd W lo oa (flat cs)
theorem RdC.at_ {W : World} {lo : Nat} {oa : Option Addr} {cs : List C} (h : RdC W lo oa cs) {i : Nat} {c : C} (hc : cs[i]? = some c) :
    ∃ a : Addr, oa = some a ∧ lo ≤ a.block ∧ W.cell? (a.add (i * 2)) = some (.int .i32 c.1) ∧ W.cell? (a.add (i * 2 + 1)) = some (.int .i64 c.2) := by
  obtain ⟨f1, f2⟩ := flat_get cs i c hc
  obtain ⟨a, h1, h2, h3⟩ := h _ _ f1
  obtain ⟨a', h1', _, h3'⟩ := h _ _ f2
  rw [h1] at h1'; cases h1'
  exact ⟨a, h1, h2, h3, h3'⟩
set_option maxHeartbeats 8000000 in
set_option maxRecDepth 100000 in
theorem clone_calls (w : World) (oa : Option Addr) (n c : Nat) (cs : List C) (hn : cs.length = n) (hr : RdC w 0 oa cs) (hl : n ≤ 1000000000) :
    Calls Try.prog 29 #[.slice oa n c] w fun e w' => ∃ lb cap, e = .returned (sl lb n cap) ∧ Own w' w.heap.size 49 2 lb n cap (flat cs) ∧ Below w.heap.size w w' := by
  obtain ⟨i0, hi, hz0, hz1, hz2⟩ := info_parts cellInfo
  have heq := fun (w : World) => Lib.run_eql_slice_nil (P := Try.prog) w 47 49 oa n c 0 0 Try.underlying47
  have HR := hide hr
  have HN := hide hn
  obtain ⟨S0, hS⟩ : ∃ S0, S0 = w.heap.size := ⟨_, rfl⟩
  have HS := hide hS
  rw [← hS]
  clear hr hn hS
  cases oa with
  | none =>
    have hc0 : cs = [] := by
      cases cs with
      | nil => rfl
      | cons u us => obtain ⟨a, h, _⟩ := HR.out 0 _ rfl; cases h
    subst hc0
    have hn0 : n = 0 := HN.out.symm
    subst hn0
    go_enter Try.func29, Try.ntmps29
    go_wp2
    go_ret
    exact ⟨none, 0, rfl, Own.nil _ _ _ _, by rw [HS.out]; exact be_refl _⟩
  | some ad =>
    go_enter Try.func29, Try.ntmps29
    go_wp2_with (at_builtin; refine wpList_append_rd _ rfl (.tmp 5) (.tmp 6) 47 rfl S0 49 i0 _ 2 16 Try.underlying47 hi hz0 hz1 hz2 rfl (by omega) (some w.heap.size) 0 0 [] rfl (Own.lit (bs_new rfl) (by simp) (by rw [HS.out]; exact Nat.le_refl _) (by unfold maxLen; omega)) (some ad) n c (flat cs) rfl (by rw [flat_len, HN.out]) (HR.out.below (be_alloc (be_refl _) (Nat.le_refl _))) (flat_one cs) (by unfold maxLen; omega) (by omega) (by rw [HS.out]; simp) ?_; intro lb1 cap1 w1 hO hg hat; have O1 := hide hO; have G1 := hide hg; clear hO hg hat)
    go_ret
    refine ⟨lb1, cap1, rfl, by have := O1.out; rwa [Nat.zero_add, List.nil_append] at this, ?_⟩
    rw [HS.out]
    exact below_grown (be_alloc (be_refl _) (Nat.le_refl _)) (by simp) G1.out (fun b e => by cases e; exact Nat.le_refl _)
end Go.Proofs.Ytlkejpdclnbcoaa.RowsBase


