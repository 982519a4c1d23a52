/- Locks: one step of a script (write, read, leave) as a plain function of the state, and the contracts by it. -/
import Derived.Test.YtkgfnldcgdlffaaLockAwake
namespace Go.Proofs.Ytkgfnldcgdlffaa.LockStep
open Go Go.RowKit Go.Proofs.YtkgfnldcgdlffaaKit Go.Proofs.Ytkgfnldcgdlffaa.Mem Go.Proofs.Ytkgfnldcgdlffaa.LockKeys Go.Proofs.Ytkgfnldcgdlffaa.LockBase Go.Proofs.Ytkgfnldcgdlffaa.LockAwake
set_option linter.unusedVariables false
set_option linter.unusedSimpArgs false
abbrev St := Option Int × List Int
/-- Where one writes nobody reads. -/
def Ok (s : St) : Prop := s.1.isSome = true → s.2 = []
def sWrite (s : St) (k : Int) : Bool × St := if s.1.isNone && decide (s.2 = []) then (true, (some k, [])) else (false, s)
def sRead (s : St) (k : Int) : Bool × St := if s.1.isNone && !decide (k ∈ s.2) then (true, (none, ins k s.2)) else (false, s)
def sLeave (s : St) (k : Int) : Bool × St := match s.1 with
  | some n => if n = k then (true, (none, s.2)) else (false, s)
  | none => (decide (k ∈ s.2), (none, ers k s.2))
theorem ok_nil : Ok (none, []) := fun _ => rfl
theorem ok_write {s : St} (h : Ok s) (k : Int) : Ok (sWrite s k).2 := by unfold sWrite; split; exact fun _ => rfl; exact h
theorem ok_read {s : St} (h : Ok s) (k : Int) : Ok (sRead s k).2 := by
  unfold sRead; split
  · exact fun h => by simp at h
  · exact h
theorem ok_leave {s : St} (h : Ok s) (k : Int) : Ok (sLeave s k).2 := by
  unfold sLeave; split
  · split
    · exact fun h => by simp at h
    · exact h
  · exact fun h => by simp at h
theorem len_write (s : St) (k : Int) : (sWrite s k).2.2.length ≤ s.2.length := by unfold sWrite; split <;> simp
theorem len_read (s : St) (k : Int) : (sRead s k).2.2.length ≤ s.2.length + 1 := by unfold sRead; split; exact len_ins_le _ _; exact Nat.le_succ _
theorem len_leave (s : St) (k : Int) : (sLeave s k).2.2.length ≤ s.2.length := by
  unfold sLeave; split
  · split <;> simp
  · exact len_ers_le _ _
section
variable (k : Int) (hk : (Lit.int .i64 k).wf = true) (w W : World) (g B : Nat) (s : St) (h : Lk w W g B s.1 s.2) (ho : Ok s) (hl : s.2.length ≤ 1000000)
include h
theorem write_u : Calls Try.prog 9 #[.pointer (some ⟨g, 0, none⟩), .int .i64 k] W fun e W' => e = .returned (.bool (sWrite s k).1) ∧ Lk w W' g B (sWrite s k).2.1 (sWrite s k).2.2 ∧ Turn W W' g B := by
  obtain ⟨a, xs⟩ := s
  by_cases c : a = none ∧ xs = []
  · obtain ⟨rfl, rfl⟩ := c
    exact write_yes k w W g B none [] h rfl rfl
  · have e : (a.isNone && decide (xs = [])) = false := by cases a <;> simp_all
    have e2 : sWrite (a, xs) k = (false, (a, xs)) := by simp [sWrite, e]
    rw [e2]
    exact write_no k w W g B a xs h (by cases a <;> simp_all)
include hk hl
theorem read_u : Calls Try.prog 8 #[.pointer (some ⟨g, 0, none⟩), .int .i64 k] W fun e W' => e = .returned (.bool (sRead s k).1) ∧ Lk w W' g B (sRead s k).2.1 (sRead s k).2.2 ∧ Turn W W' g B := by
  obtain ⟨a, xs⟩ := s
  by_cases c : a = none ∧ k ∉ xs
  · obtain ⟨rfl, c2⟩ := c
    have e2 : sRead (none, xs) k = (true, (none, ins k xs)) := by simp [sRead, c2]
    rw [e2]
    exact read_yes k hk w W g B none xs h hl rfl c2
  · have e : (a.isNone && !decide (k ∈ xs)) = false := by cases a <;> simp_all
    have e2 : sRead (a, xs) k = (false, (a, xs)) := by simp only [sRead, e]; rfl
    rw [e2]
    exact read_no k hk w W g B a xs h (by cases a <;> simp_all)
omit hl
include ho
theorem leave_u : Calls Try.prog 11 #[.pointer (some ⟨g, 0, none⟩), .int .i64 k] W fun e W' => e = .returned (.bool (sLeave s k).1) ∧ Lk w W' g B (sLeave s k).2.1 (sLeave s k).2.2 ∧ Turn W W' g B := by
  obtain ⟨a, xs⟩ := s
  cases a with
  | none => exact leave_r k hk w W g B none xs h rfl
  | some n =>
    by_cases c : n = k
    · have e2 : sLeave (some n, xs) k = (true, (none, xs)) := by simp [sLeave, c]
      rw [e2]
      exact leave_w k w W g B (some n) xs h n rfl c
    · have e2 : sLeave (some n, xs) k = (false, (some n, xs)) := by simp [sLeave, c]
      rw [e2]
      have : xs = [] := ho rfl
      exact leave_o k hk w W g B (some n) xs h n rfl c (by simp [this])
end
theorem intInfo : (Try.prog.info? 3).map (fun i => (i.zero, i.size, i.bytes)) = some (some (.int .i64 0), 1, 8) := by kernel_rfl
theorem rd_one {W : World} {b : Nat} {t : TypeId} {v : Value} (h : W.heap[b]? = some (.cells #[v] t (0, 0))) : Rd W 0 (some ⟨b, 0, none⟩) [v] := fun j u hv => ⟨_, rfl, Nat.zero_le _, by
  rw [add_head, bs_cell h]; cases j with
  | zero => simpa using hv
  | succ j => simp at hv⟩
theorem row_base {W : World} {base : Nat} {e : TypeId} {k : Nat} {lb : Option Nat} {n cap : Nat} {xs : List Value} (h : Own W base e k lb n cap xs) : ∀ b, lb = some b → base ≤ b := fun b hb => by subst hb; exact (own_base h).1
/-- append(xs, v). -/
theorem push_int (w : World) {ops : Array Oper} {rest : List Oper} {o : Oper} {a : Act} {Q : Exit → Act → World → Prop} (hgd : o.guard = none) (s x : Operand)
    (ho : o.op = .call { callee := .builtin .append, args := #[s, x], argTypes := #[25, 25] }) (base : Nat) (lb : Option Nat) (n cap : Nat) (xs : List Int) (hs : a.eval s = sl lb n cap) (hown : Own w base 3 1 lb n cap (xs.map (.int .i64)))
    (b : Nat) (t : TypeId) (v : Int) (hx : a.eval x = .slice (some ⟨b, 0, none⟩) 1 1) (hb : w.heap[b]? = some (.cells #[.int .i64 v] t (0, 0))) (hn : n ≤ 1000000) (hbase : base ≤ w.heap.size)
    (h : ∀ lb' cap' w', Own w' base 3 1 lb' (n + 1) cap' ((xs ++ [v]).map (.int .i64)) → w.grownBy w' lb → wpList Try.prog ops Q rest (a.put o.dst (sl lb' (n + 1) cap')) w') : wpList Try.prog ops Q (o :: rest) a w := by
  obtain ⟨i0, hi, hz0, hz1, hz2⟩ := info_parts intInfo
  exact wpList_append_rd w hgd s x 25 ho base 3 i0 _ 1 8 Try.underlying25 hi hz0 hz1 hz2 rfl (by omega) lb n cap _ hs hown (some ⟨b, 0, none⟩) 1 1 [.int .i64 v] hx rfl (rd_one hb) (by simp [Value.oneCell']) (by unfold maxLen; omega) (by omega) hbase
    (fun lb' cap' w' h1 h2 _ => h lb' cap' w' (by rw [List.map_append]; exact h1) h2)
theorem lk_row {w W W' : World} {g B : Nat} {s : Option Int} {xs : List Int} {row : Option Nat} (h : Lk w W g B s xs) (hg : W.grownBy W' row) (hr : ∀ b, row = some b → g < b ∧ B < b) : Lk w W' g B s xs :=
  ⟨(hg.block g h.lt (fun e => by have := (hr g e.symm).1; omega)).trans h.obj, h.map.keep (hg.block B h.map.lt (fun e => by have := (hr B e.symm).2; omega)), h.ge, h.geB, below_grown h.below h.below.size hg (fun b hb => by have := (hr b hb).1; have := h.ge; omega)⟩
theorem lk_other {w W W' : World} {g B M : Nat} {s : Option Int} {xs : List Int} (h : Lk w W g B s xs) (hg : W.grownBy W' (some M)) (hM : w.heap.size ≤ M) (hn : M ≠ g ∧ M ≠ B) : Lk w W' g B s xs :=
  ⟨(hg.block g h.lt (fun e => hn.1 (by injection e with e; exact e.symm))).trans h.obj, h.map.keep (hg.block B h.map.lt (fun e => hn.2 (by injection e with e; exact e.symm))), h.ge, h.geB, below_grown h.below h.below.size hg (fun b hb => by injection hb with hb; omega)⟩
end Go.Proofs.Ytkgfnldcgdlffaa.LockStep


