/- Maps with int keys that all hold one value: the keys as a rising row; what a lookup, a store, a delete, len and the sorted keys come to. Plain theorems, without a condition of their own. -/
import Derived.Maps.OwnSet
import Derived.Lib.SlKeysI
import Derived.Test.YtkgfnldcgdlffaaKit
import Derived.Test.YtkgfnldcgdlffaaMem
import Derived.Test.YtkgfnldcgdlffaaKeysLaid
namespace Go.Proofs.Ytkgfnldcgdlffaa.LockKeys
open Go Go.RowKit Go.Maps Go.Sort Go.Shelf Go.Proofs.YtkgfnldcgdlffaaKit Go.Proofs.Ytkgfnldcgdlffaa.Mem Go.Proofs.Ytkgfnldcgdlffaa.KeysLaid
set_option linter.unusedVariables false
set_option linter.unusedSimpArgs false
def ins (k : Int) : List Int → List Int
  | [] => [k]
  | x :: xs => if k < x then k :: x :: xs else if k = x then x :: xs else x :: ins k xs
theorem mem_ins {k a : Int} : ∀ {xs : List Int}, a ∈ ins k xs ↔ a = k ∨ a ∈ xs
  | [] => by simp [ins]
  | x :: xs => by
    unfold ins
    split
    · simp
    · split
      · rename_i h; subst h; simp
      · simp only [List.mem_cons, mem_ins (xs := xs)]; constructor
        · rintro (h | h | h)
          · exact .inr (.inl h)
          · exact .inl h
          · exact .inr (.inr h)
        · rintro (h | h | h)
          · exact .inr (.inl h)
          · exact .inl h
          · exact .inr (.inr h)
abbrev Up (xs : List Int) : Prop := xs.Pairwise (fun a b => a < b)
theorem up_ins {k : Int} : ∀ {xs : List Int}, Up xs → Up (ins k xs)
  | [], _ => by simp [ins, Up]
  | x :: xs, h => by
    have h1 := (List.pairwise_cons.1 h)
    unfold ins
    split
    · rename_i hk
      exact List.pairwise_cons.2 ⟨fun a ha => by rcases List.mem_cons.1 ha with rfl | ha; exact hk; exact Int.lt_trans hk (h1.1 a ha), h⟩
    · split
      · exact h
      · refine List.pairwise_cons.2 ⟨fun a ha => ?_, up_ins h1.2⟩
        rcases mem_ins.1 ha with rfl | ha
        · omega
        · exact h1.1 a ha
theorem ins_mem {k : Int} : ∀ {xs : List Int}, Up xs → k ∈ xs → ins k xs = xs
  | [], _, h => by simp at h
  | x :: xs, hu, h => by
    have h1 := (List.pairwise_cons.1 hu)
    unfold ins
    split
    · rename_i hk
      rcases List.mem_cons.1 h with rfl | h
      · omega
      · have := h1.1 k h; omega
    · split
      · rfl
      · rename_i hk
        rcases List.mem_cons.1 h with rfl | h
        · exact absurd rfl hk
        · rw [ins_mem h1.2 h]
theorem len_ins {k : Int} : ∀ {xs : List Int}, k ∉ xs → (ins k xs).length = xs.length + 1
  | [], _ => rfl
  | x :: xs, h => by
    unfold ins
    split
    · rfl
    · split
      · rename_i hk; exact absurd (List.mem_cons.2 (.inl hk)) h
      · simp only [List.length_cons, len_ins (fun h2 => h (List.mem_cons.2 (.inr h2)))]
theorem len_ins_le (k : Int) (xs : List Int) : (ins k xs).length ≤ xs.length + 1 := by
  induction xs with
  | nil => simp [ins]
  | cons x xs ih =>
    unfold ins
    split
    · simp
    · split
      · simp
      · simp only [List.length_cons]; omega
def ers (k : Int) (xs : List Int) : List Int := xs.filter (fun x => !decide (x = k))
theorem mem_ers {k a : Int} {xs : List Int} : a ∈ ers k xs ↔ a ∈ xs ∧ a ≠ k := by simp [ers]
theorem up_ers {k : Int} {xs : List Int} (h : Up xs) : Up (ers k xs) := List.Pairwise.filter _ h
theorem ers_not {k : Int} {xs : List Int} (h : k ∉ xs) : ers k xs = xs := List.filter_eq_self.2 fun a ha => by simp; intro e; exact h (e ▸ ha)
theorem len_ers_le (k : Int) (xs : List Int) : (ers k xs).length ≤ xs.length := List.length_filter_le _ _
theorem up_nodup {xs : List Int} (h : Up xs) : xs.Nodup := List.Pairwise.imp (fun {a b} hab e => by omega) h
theorem len_ers {k : Int} : ∀ {xs : List Int}, Up xs → k ∈ xs → (ers k xs).length + 1 = xs.length
  | [], _, h => by simp at h
  | x :: xs, hu, h => by
    have h1 := (List.pairwise_cons.1 hu)
    by_cases e : x = k
    · subst e
      have : x ∉ xs := fun hm => by have := h1.1 x hm; omega
      have h2 : ers x (x :: xs) = ers x xs := by simp [ers]
      rw [h2, ers_not this]; simp
    · have hm : k ∈ xs := by rcases List.mem_cons.1 h with rfl | h; exact absurd rfl e; exact h
      have h2 : ers k (x :: xs) = x :: ers k xs := by simp [ers, e]
      rw [h2]; simp only [List.length_cons]; have := len_ers h1.2 hm; omega
/-- D's keys are xs, each with u. -/
structure Keys (D : DataW Unit) (xs : List Int) (u : Lit) : Prop where
  tidy : Tidy D
  up : Up xs
  has_ : ∀ x, Maps.has D (.int .i64 x) = decide (x ∈ xs)
  at_ : ∀ x z, D.atKey (.int .i64 x) z = if x ∈ xs then .lit u else z
theorem key_lit (k : Int) : WideAt.IsKeyLit (.int .i64 k) := trivial
theorem Keys.nil (u : Lit) : Keys (.map []) [] u := ⟨tidy_empty, .nil, fun x => rfl, fun x z => rfl⟩
theorem key_ne {a b : Int} (h : a ≠ b) : (Lit.int .i64 a) ≠ (Lit.int .i64 b) := fun e => h (by injection e)
theorem Keys.put {D : DataW Unit} {xs : List Int} {u : Lit} (h : Keys D xs u) (k : Int) : Keys (D.put (.int .i64 k) (.lit u)) (ins k xs) u := by
  refine ⟨h.tidy.put (key_lit k) _, up_ins h.up, fun x => ?_, fun x z => ?_⟩
  · by_cases e : x = k
    · subst e; rw [has_put_same h.tidy.isMap (key_lit x)]; simp [mem_ins]
    · rw [has_put_other (key_ne e), h.has_ x]; simp [mem_ins, e]
  · by_cases e : x = k
    · subst e; rw [atKey_put_same h.tidy.isMap (key_lit x)]; simp [mem_ins]
    · rw [atKey_put_other (key_ne e), h.at_ x z]; simp [mem_ins, e]
theorem Keys.del {D : DataW Unit} {xs : List Int} {u : Lit} (h : Keys D xs u) (k : Int) : Keys (D.del (.int .i64 k)) (ers k xs) u := by
  refine ⟨h.tidy.del _, up_ers h.up, fun x => ?_, fun x z => ?_⟩
  · by_cases e : x = k
    · subst e; rw [has_del_same]; simp [mem_ers]
    · rw [has_del_other (key_ne e), h.has_ x]; simp [mem_ers, e]
  · by_cases e : x = k
    · subst e; rw [atKey_del_same]; simp [mem_ers]
    · rw [atKey_del_other (key_ne e), h.at_ x z]; simp [mem_ers, e]
theorem law3 : Keyed Try.prog 3 := int_keyed Try.underlying3
theorem zero3 (w : World) : (zeroValue 3).run Try.prog w = .ok (.int .i64 0) w := by kernel_rfl
theorem zero4 (w : World) : (zeroValue 4).run Try.prog w = .ok (.bool false) w := by kernel_rfl
theorem Keys.perm {D : DataW Unit} {xs : List Int} {u : Lit} (h : Keys D xs u) {W : World} {R : Value → Option (DataW Unit × List MemPlace)} {b n : Nat} (ho : W.ownsMap Try.prog 3 R b n D) : xs.Perm (intKeys D) := by
  obtain ⟨es, hD, hpw, _⟩ := ho.entries law3
  obtain ⟨es', hD', hko⟩ := ho.keysOf
  obtain rfl : es = es' := by rw [hD] at hD'; simpa using hD'
  subst hD
  exact perm_intKeys hpw (fun p hp => by obtain ⟨v, hv⟩ := hko p hp; obtain ⟨x, _, hx, _⟩ := Maps.keyOf_i64 Try.underlying3 hv; exact ⟨x, hx⟩) (up_nodup h.up) (fun x => by rw [h.has_ x]; simp)
theorem Keys.size {D : DataW Unit} {xs : List Int} {u : Lit} (h : Keys D xs u) {W : World} {R : Value → Option (DataW Unit × List MemPlace)} {b n : Nat} (ho : W.ownsMap Try.prog 3 R b n D) : Maps.size D = xs.length := by
  rw [(h.perm ho).length_eq]
  obtain ⟨es, hD⟩ := ho.isMap
  subst hD
  simp [intKeys, size_eq]
theorem tight {W : World} {R : Value → Option (DataW Unit × List MemPlace)} {b n : Nat} {D : DataW Unit} (ho : W.ownsMap Try.prog 3 R b n D) : W.ownsMap Try.prog 3 R b (Maps.size D) D := by
  obtain ⟨es, clock, hb, F, hs, hD⟩ := ho
  refine ⟨es, clock, hb, F, ?_, hD⟩
  rw [hD, size_eq, length_read]; exact Nat.le_refl _
/-- The map at B holds the keys xs, each with u. -/
def MI (W : World) (e : TypeId) (u : Lit) (B : Nat) (xs : List Int) : Prop := ∃ D : DataW Unit, W.ownsMap Try.prog 3 (plainElem Try.prog e) B (Maps.size D) D ∧ Keys D xs u
section
variable {W W' : World} {e : TypeId} {u : Lit} {B : Nat} {xs : List Int}
theorem MI.up (h : MI W e u B xs) : Up xs := by obtain ⟨D, _, k⟩ := h; exact k.up
theorem MI.new (w : World) (e : TypeId) (u : Lit) : MI (w.alloc (.map #[] 0)) e u w.heap.size [] := ⟨_, World.ownsMap_made _ _ _ _, .nil u⟩
theorem MI.lt (h : MI W e u B xs) : B < W.heap.size := by obtain ⟨D, o, _⟩ := h; exact o.lt
theorem MI.keep (h : MI W e u B xs) (hk : W'.heap[B]? = W.heap[B]?) : MI W' e u B xs := by
  obtain ⟨D, ⟨es, clock, hb, F, hs, hD⟩, k⟩ := h
  exact ⟨D, ⟨es, clock, hk.trans hb, F, hs, hD⟩, k⟩
theorem MI.map (h : MI W e u B xs) : ∃ es clock, W.heap[B]? = some (.map es clock) := by obtain ⟨D, ⟨es, clock, hb, _⟩, k⟩ := h; exact ⟨es, clock, hb⟩
theorem MI.wf (h : MI W e u B xs) : ∀ x ∈ xs, (Lit.int .i64 x).wf = true := fun x hx => by
  obtain ⟨D, o, k⟩ := h
  exact intKeys_wf o Try.underlying3 x ((k.perm o).mem_iff.1 hx)
theorem MI.put {D : DataW Unit} {k : Int} {n : Nat} (hk : Keys D xs u) (ho : W.ownsMap Try.prog 3 (plainElem Try.prog e) B n (D.put (.int .i64 k) (.lit u))) : MI W e u B (ins k xs) := ⟨_, tight ho, hk.put k⟩
theorem MI.del {D : DataW Unit} {k : Int} {n : Nat} (hk : Keys D xs u) (ho : W.ownsMap Try.prog 3 (plainElem Try.prog e) B n (D.del (.int .i64 k))) : MI W e u B (ers k xs) := ⟨_, tight ho, hk.del k⟩
end
section
variable {ops : Array Oper} {rest : List Oper} {o : Oper} {a : Act} {Q : Exit → Act → World → Prop} {e : TypeId} {u : Lit} {B : Nat} {xs : List Int}
theorem wpList_wanted {P : Program} {w : World} (hw : Region.wanted o (yielded ops a.tmps) = true)
    (h : ∀ K : Act → World → Prop, (∀ a w, wpList P ops Q rest a w → K a w) → o.wp P a w K Q) : wpList P ops Q (o :: rest) a w := wpList_step fun K hK => by rw [if_pos hw]; exact h K hK
theorem keyOf3 {k : Int} (hk : (Lit.int .i64 k).wf = true) : keyOf Try.prog 3 (.int .i64 k) = some (.int .i64 k) := keyOf_int_mk Try.underlying3 hk
/-- A lookup at an int that each key holds. -/
theorem look_int {n : Int} (hn : (Lit.int .i64 n).wf = true) (w : World) (hg : Region.wanted o (yielded ops a.tmps) = true) (m x : Operand) (t : TypeId) (hop : o.op = Op.lookup t m x false) (ht : Try.prog.underlying t = some (.map 3 3))
    (h : MI w 3 (.int .i64 n) B xs) (hm : a.eval m = .map (some B)) (k : Int) (hk : (Lit.int .i64 k).wf = true) (hx : a.eval x = .int .i64 k) (c : Int) (hc : c = if k ∈ xs then n else 0)
    (hK : wpList Try.prog ops Q rest (a.put o.dst (.int .i64 c)) w) : wpList Try.prog ops Q (o :: rest) a w := by
  obtain ⟨D, ho, kk⟩ := h
  refine wpList_wanted hg fun K' hK' => ?_
  obtain ⟨c', hrun, hat, hwc⟩ := ho.lookup_int law3 ht Try.underlying3 (zero3 _) (keyOf3 hk)
  have : c' = c := by
    rw [kk.at_ k] at hat
    subst hc
    split at hat
    · rename_i hm; rw [if_pos hm]; injection hat with e1; injection e1 with _ e2; exact e2.symm
    · rename_i hm; rw [if_neg hm]; injection hat with e1; injection e1 with _ e2; exact e2.symm
  subst this
  unfold Oper.wp
  simp [execOp, hop, hm, hx, hrun, Result.andThen]
  exact hK' _ _ hK
/-- A lookup at a bool that each key holds as true. -/
theorem look_bool (w : World) (hg : Region.wanted o (yielded ops a.tmps) = true) (m x : Operand) (t : TypeId) (hop : o.op = Op.lookup t m x false) (ht : Try.prog.underlying t = some (.map 3 4))
    (h : MI w 4 (.bool true) B xs) (hm : a.eval m = .map (some B)) (k : Int) (hk : (Lit.int .i64 k).wf = true) (hx : a.eval x = .int .i64 k) (c : Bool) (hc : c = decide (k ∈ xs))
    (hK : wpList Try.prog ops Q rest (a.put o.dst (.bool c)) w) : wpList Try.prog ops Q (o :: rest) a w := by
  obtain ⟨D, ho, kk⟩ := h
  refine wpList_wanted hg fun K' hK' => ?_
  obtain ⟨v, ps, hrun, hv⟩ := ho.lookup law3 ht (zero4 _) (zd := .lit (.bool false)) (zp := []) (plainElem_bool Try.underlying4 false) (keyOf3 hk)
  have : v = .bool c := by
    rw [kk.at_ k] at hv
    subst hc
    by_cases hm : k ∈ xs
    · rw [if_pos hm] at hv
      simp only [hm, decide_true]
      cases v <;> simp [plainElem, Try.underlying4] at hv
      simp_all
    · rw [if_neg hm] at hv
      simp only [hm, decide_false]
      cases v <;> simp [plainElem, Try.underlying4] at hv
      simp_all
  subst this
  unfold Oper.wp
  simp [execOp, hop, hm, hx, hrun, Result.andThen]
  exact hK' _ _ hK
/-- A store of what each key holds. -/
theorem put_law (w : World) (hg : o.guard = none) (m x v : Operand) (t : TypeId) (hop : o.op = Op.mapUpdate t m x v) (ht : Try.prog.underlying t = some (.map 3 e))
    (h : MI w e u B xs) (hm : a.eval m = .map (some B)) (k : Int) (hk : (Lit.int .i64 k).wf = true) (hx : a.eval x = .int .i64 k) (val : Value) (hv : a.eval v = val) (hval : plainElem (H := Unit) Try.prog e val = some (.lit u, [])) (hl : xs.length ≤ 1000000)
    (hK : ∀ w', MI w' e u B (ins k xs) → w.grownBy w' (some B) → wpList Try.prog ops Q rest (a.put o.dst undef) w') : wpList Try.prog ops Q (o :: rest) a w := by
  obtain ⟨D, ho, kk⟩ := h
  exact wpList_mapUpdate_own w hg m x v t hop 3 e law3 ht _ B _ D hm ho (by rw [kk.size ho]; unfold maxLen; omega) _ _ (.int .i64 k) hx hv (keyOf3 hk) _ _ hval (fun w' ho' hg' => hK w' (MI.put kk ho') hg')
/-- delete. -/
theorem del_law (w : World) (hg : o.guard = none) (m x : Operand) (t : TypeId) (hop : o.op = Op.call { callee := Callee.builtin Builtin.delete, args := #[m, x], argTypes := #[t, 3] }) (ht : Try.prog.underlying t = some (.map 3 e))
    (h : MI w e u B xs) (hm : a.eval m = .map (some B)) (k : Int) (hk : (Lit.int .i64 k).wf = true) (hx : a.eval x = .int .i64 k)
    (hK : ∀ w', MI w' e u B (ers k xs) → w.grownBy w' (some B) → wpList Try.prog ops Q rest (a.put o.dst (.tuple #[])) w') : wpList Try.prog ops Q (o :: rest) a w := by
  obtain ⟨D, ho, kk⟩ := h
  exact wpList_delete_own w hg m x t 3 hop e law3 ht _ B _ D hm ho _ (.int .i64 k) hx (keyOf3 hk) (fun w' ho' hg' => hK w' (MI.del kk ho') hg'.grown)
/-- len. -/
theorem len_law (w : World) (hg : Region.wanted o (yielded ops a.tmps) = true) (m : Operand) (t : TypeId) (hop : o.op = Op.call { callee := Callee.builtin Builtin.len, args := #[m], argTypes := #[t] }) (ht : Try.prog.underlying t = some (.map 3 e))
    (h : MI w e u B xs) (hm : a.eval m = .map (some B)) (n : Int) (hn : n = xs.length)
    (hK : wpList Try.prog ops Q rest (a.put o.dst (.int .i64 n)) w) : wpList Try.prog ops Q (o :: rest) a w := by
  obtain ⟨D, ho, kk⟩ := h
  refine wpList_wanted hg fun K' hK' => ?_
  have hl := ho.len ht o.type
  rw [kk.size ho, ← hn] at hl
  unfold Oper.wp
  simp [execOp, hop, resolve, invoke, builtin, hm, hl, Result.andThen]
  exact hK' _ _ hK
end
end Go.Proofs.Ytkgfnldcgdlffaa.LockKeys


