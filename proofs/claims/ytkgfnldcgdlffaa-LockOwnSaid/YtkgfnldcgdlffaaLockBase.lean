/- Locks: the state of a value of lock.Lock, and what the functions of the package lock do with it: contracts, for every state, without a condition of their own. -/
import Derived.WalkKit
import Derived.KernelRfl
import Derived.StillTailTactics
import Derived.OwnWalkIn
import Derived.TacticsInMore
import Derived.RegionIn
import Derived.LoopNIn
import Derived.LoopIn
import Derived.Test.YtkgfnldcgdlffaaLockKeys
namespace Go.Proofs.Ytkgfnldcgdlffaa.LockBase
open Go Go.RowKit Go.Maps Go.Sort Go.Shelf Go.Proofs.YtkgfnldcgdlffaaKit Go.Proofs.Ytkgfnldcgdlffaa.Mem Go.Proofs.Ytkgfnldcgdlffaa.KeysLaid Go.Proofs.Ytkgfnldcgdlffaa.LockKeys
set_option linter.unusedVariables false
set_option linter.unusedSimpArgs false
/-- What turns between two worlds: the blocks g and B, and nothing else that was there. -/
structure Turn (W W' : World) (g B : Nat) : Prop where
  os : W'.os = W.os
  tape : W'.tape = W.tape
  output : W'.output = W.output
  size : W.heap.size ≤ W'.heap.size
  block : ∀ k, k < W.heap.size → k ≠ g → k ≠ B → W'.heap[k]? = W.heap[k]?
theorem Turn.refl (W : World) (g B : Nat) : Turn W W g B := ⟨rfl, rfl, rfl, Nat.le_refl _, fun _ _ _ _ => rfl⟩
theorem Turn.trans {W W' W2 : World} {g B : Nat} (h : Turn W W' g B) (h2 : Turn W' W2 g B) : Turn W W2 g B :=
  ⟨h2.os.trans h.os, h2.tape.trans h.tape, h2.output.trans h.output, Nat.le_trans h.size h2.size, fun k hk a b => (h2.block k (Nat.lt_of_lt_of_le hk h.size) a b).trans (h.block k hk a b)⟩
theorem Turn.below {W W' : World} (h : Below W.heap.size W W') (g B : Nat) : Turn W W' g B := ⟨h.os, h.tape, h.output, h.size, fun k hk _ _ => h.block k hk⟩
theorem Turn.grown {W W' : World} {B : Nat} (h : W.grownBy W' (some B)) (g : Nat) : Turn W W' g B := ⟨h.os, h.tape, h.output, h.size, fun k hk _ b => h.block k hk (fun e => b (by injection e))⟩
theorem Turn.set (W : World) (g B i : Nat) (v : Value) : Turn W (W.setCell ⟨g, i, none⟩ v) g B := ⟨rfl, rfl, rfl, by simp, fun k _ a _ => Below.heap_setCell W ⟨g, i, none⟩ v k a⟩
/-- A lock at g, its readers' map at B: s writes; xs read. -/
structure Lk (w W : World) (g B : Nat) (s : Option Int) (xs : List Int) : Prop where
  obj : W.heap[g]? = some (.cells #[.int .i64 (s.getD 0), .bool s.isSome, .map (some B)] 42 (0, 0))
  map : MI W 3 (.int .i64 1) B xs
  ge : w.heap.size ≤ g
  geB : w.heap.size ≤ B
  below : Below w.heap.size w W
section
variable {w W W' : World} {g B g' B' : Nat} {s : Option Int} {xs : List Int}
theorem Lk.ne (h : Lk w W g B s xs) : g ≠ B := fun e => by obtain ⟨es, c, hb⟩ := h.map.map; rw [← e, h.obj] at hb; cases hb
theorem Lk.lt (h : Lk w W g B s xs) : g < W.heap.size := bs_lt h.obj
theorem below_turn (h : Below w.heap.size w W) (hg : w.heap.size ≤ g) (hB : w.heap.size ≤ B) (t : Turn W W' g B) : Below w.heap.size w W' :=
  ⟨t.os.trans h.os, t.tape.trans h.tape, t.output.trans h.output, Nat.le_trans h.size t.size, fun k hk => (t.block k (Nat.lt_of_lt_of_le hk h.size) (by omega) (by omega)).trans (h.block k hk)⟩
theorem Lk.then_ (h : Lk w W g B s xs) (hb : Below W.heap.size W W') : Lk w W' g B s xs :=
  ⟨(hb.block g h.lt).trans h.obj, h.map.keep (hb.block B h.map.lt), h.ge, h.geB, h.below.trans (hb.mono h.below.size)⟩
theorem Lk.other (h : Lk w W g B s xs) (t : Turn W W' g' B') (hg : w.heap.size ≤ g') (hB : w.heap.size ≤ B') (n1 : g ≠ g') (n2 : g ≠ B') (n3 : B ≠ g') (n4 : B ≠ B') : Lk w W' g B s xs :=
  ⟨(t.block g h.lt n1 n2).trans h.obj, h.map.keep (t.block B h.map.lt n3 n4), h.ge, h.geB, below_turn h.below hg hB t⟩
theorem Lk.c (h : Lk w W g B s xs) : W.cell? ⟨g, 0, none⟩ = some (.int .i64 (s.getD 0)) ∧ W.cell? ⟨g, 1, none⟩ = some (.bool s.isSome) ∧ W.cell? ⟨g, 2, none⟩ = some (.map (some B)) := by
  obtain ⟨a, b, c, _⟩ := cells3 h.obj
  exact ⟨a, b, c⟩
theorem Lk.put (h : Lk w W g B s xs) {ys : List Int} (hm : MI W' 3 (.int .i64 1) B ys) (hg : W.grownBy W' (some B)) : Lk w W' g B s ys :=
  ⟨((Turn.grown hg B).block g h.lt h.ne h.ne).trans h.obj, hm, h.ge, h.geB, below_turn h.below h.geB h.geB (Turn.grown hg B)⟩
theorem Lk.set (h : Lk w W g B s xs) (s' : Option Int) : Lk w ((W.setCell ⟨g, 0, none⟩ (.int .i64 (s'.getD 0))).setCell ⟨g, 1, none⟩ (.bool s'.isSome)) g B s' xs := by
  have t := (Turn.set W g B 0 (.int .i64 (s'.getD 0))).trans (Turn.set _ g B 1 (.bool s'.isSome))
  refine ⟨?_, h.map.keep ?_, h.ge, h.geB, below_turn h.below h.ge h.geB t⟩
  · exact bs_same (i := 1) (bs_same (i := 0) h.obj)
  · rw [Below.heap_setCell _ _ _ _ (fun e => h.ne e.symm), Below.heap_setCell _ _ _ _ (fun e => h.ne e.symm)]
end
/-- New. -/
theorem new_calls (w W : World) (hb : Below w.heap.size w W) :
    Calls Try.prog 7 #[] W fun e W' => ∃ g B, e = .returned (.pointer (some ⟨g, 0, none⟩)) ∧ Lk w W' g B none [] ∧ W.heap.size ≤ g ∧ W.heap.size ≤ B ∧ Below W.heap.size W W' := by
  have hmm := @run_makeMap Try.prog
  have H := hide hb
  clear hb
  go_enter Try.func7, Try.ntmps7
  go_wp2
  go_ret
  refine ⟨_, W.heap.size, rfl, ⟨bs_new (by simp), (MI.new W _ _).keep ?_, ?_, H.out.size, ?_⟩, ?_, Nat.le_refl _, ?_⟩
  · exact bs_alloc (bs_new rfl) |>.trans (bs_new rfl).symm
  · have := H.out.size; simp; omega
  · exact (H.out.alloc H.out.size _).alloc (by have := H.out.size; simp; omega) _
  · simp
  · exact ((Below.refl _ W).alloc (Nat.le_refl _) _).alloc (by simp) _
section
variable (k : Int) (hk : (Lit.int .i64 k).wf = true) (w W : World) (g B : Nat) (s : Option Int) (xs : List Int) (h : Lk w W g B s xs)
include h
/-- Has, where somebody writes. -/
theorem has_w (n : Int) (hs : s = some n) : Calls Try.prog 23 #[.pointer (some ⟨g, 0, none⟩), .int .i64 k] W fun e W' => e = .returned (.tuple #[.bool (n == k), .bool (n == k)]) ∧ Below W.heap.size W W' := by
  subst hs
  obtain ⟨c0, c1, c2⟩ := h.c
  clear h
  simp only [Option.getD_some, Option.isSome_some] at c0 c1
  go_enter Try.func23, Try.ntmps23
  go_wp2
  go_region
  go_wp2
  go_ret2
  exact ⟨rfl, by (repeat (first | (with_reducible assumption) | with_reducible exact be_refl _ | (with_reducible refine be_set ?_ (by dsimp only; omega)) | (with_reducible apply be_drew) | (with_reducible apply be_drewN) | (with_reducible refine be_alloc ?_ (by first | omega | (simp; omega) | simp)) | (with_reducible refine be_call (by with_reducible assumption) (by first | omega | (simp; omega) | simp) ?_)))⟩
include hk
/-- Has, where nobody writes. -/
theorem has_r (hs : s = none) : Calls Try.prog 23 #[.pointer (some ⟨g, 0, none⟩), .int .i64 k] W fun e W' => e = .returned (.tuple #[.bool (decide (k ∈ xs)), .bool false]) ∧ W' = W := by
  subst hs
  obtain ⟨c0, c1, c2⟩ := h.c
  have H := hide h
  have HK := hide hk
  clear h hk
  simp only [Option.getD_none, Option.isSome_none] at c0 c1
  by_cases hx : k ∈ xs
  · simp only [hx, decide_true]
    go_enter Try.func23, Try.ntmps23
    go_wp2_with (first | (at_lookup; refine look_int (by decide) _ (by rfl) _ _ 40 rfl Try.underlying40 H.out.map rfl k HK.out rfl 1 (by rw [if_pos hx]) ?_) | go_in)
    go_ret2
    exact ⟨rfl, rfl⟩
  · simp only [hx, decide_false]
    go_enter Try.func23, Try.ntmps23
    go_wp2_with (first | (at_lookup; refine look_int (by decide) _ (by rfl) _ _ 40 rfl Try.underlying40 H.out.map rfl k HK.out rfl 0 (by rw [if_neg hx]) ?_) | go_in)
    go_ret2
    exact ⟨rfl, rfl⟩
/-- CanRead. -/
theorem canRead_calls : Calls Try.prog 19 #[.pointer (some ⟨g, 0, none⟩), .int .i64 k] W fun e W' => e = .returned (.bool (!s.isSome && !decide (k ∈ xs))) ∧ W' = W := by
  obtain ⟨c0, c1, c2⟩ := h.c
  have H := hide h
  have HK := hide hk
  clear h hk
  cases s with
  | some n =>
    simp only [Option.getD_some, Option.isSome_some, Bool.not_true, Bool.false_and] at c0 c1 ⊢
    go_enter Try.func19, Try.ntmps19
    go_wp2
    go_ret
    exact ⟨rfl, rfl⟩
  | none =>
    simp only [Option.getD_none, Option.isSome_none, Bool.not_false, Bool.true_and] at c0 c1 ⊢
    by_cases hx : k ∈ xs
    · simp only [hx, decide_true]
      go_enter Try.func19, Try.ntmps19
      go_wp2_with (first | (at_lookup; refine look_int (by decide) _ (by rfl) _ _ 40 rfl Try.underlying40 H.out.map rfl k HK.out rfl 1 (by rw [if_pos hx]) ?_) | go_in)
      go_ret
      exact ⟨rfl, rfl⟩
    · simp only [hx, decide_false]
      go_enter Try.func19, Try.ntmps19
      go_wp2_with (first | (at_lookup; refine look_int (by decide) _ (by rfl) _ _ 40 rfl Try.underlying40 H.out.map rfl k HK.out rfl 0 (by rw [if_neg hx]) ?_) | go_in)
      go_ret
      exact ⟨rfl, rfl⟩
theorem read_no (hr : (!s.isSome && !decide (k ∈ xs)) = false) : Calls Try.prog 8 #[.pointer (some ⟨g, 0, none⟩), .int .i64 k] W fun e W' => e = .returned (.bool false) ∧ Lk w W' g B s xs ∧ Turn W W' g B := by
  have HC := hide (canRead_calls k hk w W g B s xs h)
  rw [hr] at HC
  have H := hide h
  clear h hk
  go_enter Try.func8, Try.ntmps8
  go_wp2_with (go_at_call 19; with_reducible refine HC.out.mono ?_; rintro e v ⟨rfl, hv⟩; subst v)
  go_ret
  exact ⟨rfl, H.out, .refl _ _ _⟩
theorem read_yes (hl : xs.length ≤ 1000000) (hs : s = none) (hx : k ∉ xs) : Calls Try.prog 8 #[.pointer (some ⟨g, 0, none⟩), .int .i64 k] W fun e W' => e = .returned (.bool true) ∧ Lk w W' g B none (ins k xs) ∧ Turn W W' g B := by
  subst hs
  have HC := hide (canRead_calls k hk w W g B none xs h)
  have hr : (!(none : Option Int).isSome && !decide (k ∈ xs)) = true := by simp [hx]
  rw [hr] at HC
  have H := hide h
  have HK := hide hk
  obtain ⟨c0, c1, c2⟩ := h.c
  clear h hk hr hx
  go_enter Try.func8, Try.ntmps8
  go_wp2_with (first
    | (go_at_call 19; with_reducible refine HC.out.mono ?_; rintro e v ⟨rfl, hv⟩; subst v)
    | (at_mapUpdate; refine put_law _ rfl _ _ _ 40 rfl Try.underlying40 H.out.map rfl k HK.out rfl (.int .i64 1) rfl (plainElem_int Try.underlying3 (by decide)) hl ?_; intro W1 hm hg; have H1 := hide (H.out.put hm hg); have T1 := hide (Turn.grown hg g); clear hm hg)
    | go_in)
  go_ret
  exact ⟨rfl, H1.out, T1.out⟩
omit hk
/-- CanWrite. -/
theorem canWrite_calls : Calls Try.prog 20 #[.pointer (some ⟨g, 0, none⟩)] W fun e W' => e = .returned (.bool (!s.isSome && decide (xs = []))) ∧ W' = W := by
  obtain ⟨c0, c1, c2⟩ := h.c
  have H := hide h
  clear h
  cases s with
  | some n =>
    simp only [Option.getD_some, Option.isSome_some, Bool.not_true, Bool.false_and] at c0 c1 ⊢
    go_enter Try.func20, Try.ntmps20
    go_wp2
    go_ret
    exact ⟨rfl, rfl⟩
  | none =>
    simp only [Option.getD_none, Option.isSome_none, Bool.not_false, Bool.true_and] at c0 c1 ⊢
    have hl : decide (xs = []) = decide ((xs.length : Int) = 0) := by cases xs <;> simp <;> omega
    rw [hl]
    obtain ⟨n, hn⟩ : ∃ n : Int, n = xs.length := ⟨_, rfl⟩
    rw [← hn]
    have HN := hide hn
    clear hn hl
    go_enter Try.func20, Try.ntmps20
    go_wp2_with (first | (at_len; refine len_law _ (by rfl) _ 40 rfl Try.underlying40 H.out.map rfl n HN.out ?_) | go_in)
    go_ret
    exact ⟨rfl, rfl⟩
theorem write_no (hr : (!s.isSome && decide (xs = [])) = false) : Calls Try.prog 9 #[.pointer (some ⟨g, 0, none⟩), .int .i64 k] W fun e W' => e = .returned (.bool false) ∧ Lk w W' g B s xs ∧ Turn W W' g B := by
  have HC := hide (canWrite_calls w W g B s xs h)
  rw [hr] at HC
  have H := hide h
  clear h
  go_enter Try.func9, Try.ntmps9
  go_wp2_with (go_at_call 20; with_reducible refine HC.out.mono ?_; rintro e v ⟨rfl, hv⟩; subst v)
  go_ret
  exact ⟨rfl, H.out, .refl _ _ _⟩
theorem write_yes (hs : s = none) (hx : xs = []) : Calls Try.prog 9 #[.pointer (some ⟨g, 0, none⟩), .int .i64 k] W fun e W' => e = .returned (.bool true) ∧ Lk w W' g B (some k) [] ∧ Turn W W' g B := by
  subst hs hx
  have HC := hide (canWrite_calls w W g B none [] h)
  have hr : (!(none : Option Int).isSome && decide (([] : List Int) = [])) = true := rfl
  rw [hr] at HC
  have H := hide h
  obtain ⟨c0, c1, c2⟩ := h.c
  have fz := fun j => bs_frozen h.obj j
  clear h hr
  go_enter Try.func9, Try.ntmps9
  go_wp2_with (go_at_call 20; with_reducible refine HC.out.mono ?_; rintro e v ⟨rfl, hv⟩; subst v)
  go_ret
  exact ⟨rfl, H.out.set (some k), (Turn.set W g B 0 _).trans (Turn.set _ g B 1 _)⟩
/-- Leave, of the one who writes. -/
theorem leave_w (n : Int) (hs : s = some n) (hn : n = k) : Calls Try.prog 11 #[.pointer (some ⟨g, 0, none⟩), .int .i64 k] W fun e W' => e = .returned (.bool true) ∧ Lk w W' g B none xs ∧ Turn W W' g B := by
  subst hs hn
  have HC := hide (has_w n w W g B (some n) xs h n rfl)
  have hr : (n == n) = true := by simp
  rw [hr] at HC
  have H := hide h
  clear h hr
  go_enter Try.func11, Try.ntmps11
  go_wp2_with (go_at_call 23; with_reducible refine HC.out.mono ?_; rintro e W1 ⟨rfl, hb⟩; have H1 := hide (H.out.then_ hb); have T1 := hide (Turn.below hb g B); clear hb; obtain ⟨c0, c1, c2⟩ := H1.out.c; have fz := fun j => bs_frozen H1.out.obj j)
  go_ret
  exact ⟨rfl, H1.out.set none, T1.out.trans ((Turn.set W1 g B 0 _).trans (Turn.set _ g B 1 _))⟩
include hk
/-- Leave, where another one writes. -/
theorem leave_o (n : Int) (hs : s = some n) (hn : n ≠ k) (hx : k ∉ xs) : Calls Try.prog 11 #[.pointer (some ⟨g, 0, none⟩), .int .i64 k] W fun e W' => e = .returned (.bool false) ∧ Lk w W' g B s xs ∧ Turn W W' g B := by
  have HC := hide (has_w k w W g B s xs h n hs)
  have hr : (n == k) = false := by simp [hn]
  rw [hr] at HC
  have HE := hide (ers_not hx)
  have H := hide h
  have HK := hide hk
  clear h hr hk hx hn hs
  go_enter Try.func11, Try.ntmps11
  go_wp2_with (first
    | (go_at_call 23; with_reducible refine HC.out.mono ?_; rintro e W1 ⟨rfl, hb⟩; have H1 := hide (H.out.then_ hb); have T1 := hide (Turn.below hb g B); clear hb; obtain ⟨c0, c1, c2⟩ := H1.out.c)
    | (at_delete; refine del_law _ rfl _ _ 40 rfl Try.underlying40 H1.out.map rfl k HK.out rfl ?_; intro W2 hm hg; have H2 := hide (H1.out.put hm hg); have T2 := hide (T1.out.trans (Turn.grown hg g)); clear hm hg)
    | go_in)
  go_ret
  exact ⟨rfl, HE.out ▸ H2.out, T2.out⟩
/-- Leave, where nobody writes. -/
theorem leave_r (hs : s = none) : Calls Try.prog 11 #[.pointer (some ⟨g, 0, none⟩), .int .i64 k] W fun e W' => e = .returned (.bool (decide (k ∈ xs))) ∧ Lk w W' g B none (ers k xs) ∧ Turn W W' g B := by
  have HC := hide (has_r k hk w W g B s xs h hs)
  subst hs
  have H := hide h
  have HK := hide hk
  obtain ⟨c0, c1, c2⟩ := h.c
  clear h hk
  generalize decide (k ∈ xs) = bb at HC ⊢
  go_enter Try.func11, Try.ntmps11
  go_wp2_with (first
    | (go_at_call 23; with_reducible refine HC.out.mono ?_; rintro e v ⟨rfl, hv⟩; subst v)
    | (at_delete; refine del_law _ rfl _ _ 40 rfl Try.underlying40 H.out.map rfl k HK.out rfl ?_; intro W2 hm hg; have H2 := hide (H.out.put hm hg); have T2 := hide (Turn.grown hg g); clear hm hg)
    | go_in)
  go_ret
  exact ⟨rfl, H2.out, T2.out⟩
omit hk
/-- Writer. -/
theorem writer_calls : Calls Try.prog 12 #[.pointer (some ⟨g, 0, none⟩)] W fun e W' => e = .returned (.tuple #[.int .i64 (s.getD 0), .bool s.isSome]) ∧ Below W.heap.size W W' := by
  obtain ⟨c0, c1, c2⟩ := h.c
  clear h
  generalize s.getD 0 = n at c0 ⊢
  generalize s.isSome = b at c1 ⊢
  go_enter Try.func12, Try.ntmps12
  go_wp2
  go_region
  go_wp2
  go_ret2
  exact ⟨rfl, by (repeat (first | (with_reducible assumption) | with_reducible exact be_refl _ | (with_reducible refine be_set ?_ (by dsimp only; omega)) | (with_reducible apply be_drew) | (with_reducible apply be_drewN) | (with_reducible refine be_alloc ?_ (by first | omega | (simp; omega) | simp)) | (with_reducible refine be_call (by with_reducible assumption) (by first | omega | (simp; omega) | simp) ?_)))⟩
end
theorem sortsA (m : Nat) : AnyZI.SortsIn Try.prog sortedA_ren Fence.wide m :=
  ⟨fun blk off cap ss W hH hblk hsz => callsIn_wide.2 (AnyM.slices_Sort_int sortA blk off cap ss W hH hblk hsz),
   fun p cap W => callsIn_wide.2 (AnyM.slices_Sort_int_none sortA p cap W)⟩
theorem sort_up {xs ss : List Int} (hp : ss.Perm xs) (hu : Up xs) : ss.mergeSort (fun x y => decide (x ≤ y)) = xs := by
  rw [mergeSort_of_perm_i hp]
  exact List.mergeSort_of_pairwise (hu.imp (fun {a b} h => by simp only [leI, decide_eq_true_eq]; omega))
set_option maxHeartbeats 1000000 in
set_option maxRecDepth 100000 in
/-- Readers. -/
theorem readers_calls (w W : World) (g B : Nat) (s : Option Int) (xs : List Int) (h : Lk w W g B s xs) (hl : xs.length ≤ 1000000) :
    Calls Try.prog 10 #[.pointer (some ⟨g, 0, none⟩)] W fun e W' => ∃ lb cap, e = .returned (sl lb xs.length cap) ∧ Own W' W.heap.size 3 1 lb xs.length cap (xs.map (.int .i64)) ∧ Below W.heap.size W W' := by
  refine (callsIn_wide (n := 6)).1 ?_
  obtain ⟨c0, c1, c2⟩ := h.c
  obtain ⟨D0, hown, hkeys⟩ := h.map
  have hsize := hkeys.size hown
  have hperm := hkeys.perm hown
  have hup := hkeys.up
  have hbl := hown.lt
  have hseq : SeqGives Fence.wide 2 Try.prog 28 #[.pointer (some ⟨W.heap.size, 0, none⟩)] encZ (fun ss => ss.Perm (intKeys D0)) (Maps.size D0) (W.alloc (.cells #[.map (some B)] 40)) :=
    AnyZI.keys_gives (ρ := keysA_ren) { keysA with } Fence.wide _ trivial rfl (by omega) W.heap.size B (Maps.size D0) D0 _ (by simp) (by simp) (by
      obtain ⟨es, clock, hb, Ft, hs, hD⟩ := hown
      exact ⟨es, clock, (Below.heap_alloc _ _ B hbl).trans hb, Ft, hs, hD⟩)
  have cK : ∀ mb V, CallsIn Fence.wide 5 Try.prog 22 #[.map mb] V fun e w' => e = .returned (.func (.func 28) #[] #[.pointer (some ⟨V.heap.size, 0, none⟩)]) ∧ w' = V.alloc (.cells #[.map mb] 40) := fun mb V => AnyZI.keys_in keysA Fence.wide 5 trivial rfl mb V
  have cS := AnyZI.sorted_in sortedA Fence.wide 5 trivial trivial trivial trivial rfl (by omega) (sortsA _) (enters_of Try.func27 (by kernel_rfl) rfl) 28 #[.pointer (some ⟨W.heap.size, 0, none⟩)] trivial (enters_of Try.func28 (by kernel_rfl) rfl) _ _ (by rw [hsize]; unfold maxLen; omega) (by rw [hsize]; omega) _ hseq
  change CallsIn _ _ Try.prog 21 _ _ _ at cS
  have hfK : Fence.wide.fn 22 := trivial
  have hfS : Fence.wide.fn 21 := trivial
  refine callsIn_of_wp Try.func10 rfl trivial ?_ rfl
  simp only [Try.ntmps10, List.size_toArray, List.length_cons, List.length_nil, Nat.reduceAdd, Nat.reduceSub, Array.replicate_succ, Array.replicate_zero, List.push_toArray, List.append_toArray, List.nil_append, List.cons_append]
  gi_wp2_with (first
    | (gi_at_call 22; refine (cK _ _).mono ?_; rintro e w' ⟨rfl, rfl⟩)
    | (gi_at_call 21; refine cS.mono ?_; rintro e w' ⟨v, ss, rfl, hS, hrow, hnil, hb⟩))
  go_ret
  have hp : ss.Perm xs := hS.trans hperm.symm
  have hle : ss.length = xs.length := hp.length_eq
  rw [sort_up hp hup, hle] at hrow
  obtain ⟨lb, cap, rfl, ho⟩ := Own.of hrow
  exact ⟨lb, cap, rfl, ho.lower (by simp), ((Below.refl _ W).alloc (Nat.le_refl _) _).trans (hb.mono (by simp))⟩
end Go.Proofs.Ytkgfnldcgdlffaa.LockBase


