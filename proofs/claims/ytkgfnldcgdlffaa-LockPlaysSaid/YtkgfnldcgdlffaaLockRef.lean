/- The reference's lock: its state, and what its functions do with it: contracts, for every state, without a condition of their own. -/
import Derived.Test.YtkgfnldcgdlffaaLockStep
namespace Go.Proofs.Ytkgfnldcgdlffaa.LockRef
open Go Go.RowKit Go.Proofs.YtkgfnldcgdlffaaKit Go.Proofs.Ytkgfnldcgdlffaa.Mem Go.Proofs.Ytkgfnldcgdlffaa.LockKeys Go.Proofs.Ytkgfnldcgdlffaa.LockBase Go.Proofs.Ytkgfnldcgdlffaa.LockAwake Go.Proofs.Ytkgfnldcgdlffaa.LockStep
set_option linter.unusedVariables false
set_option linter.unusedSimpArgs false
def risStep (k : Int) (st : Bool × List Int) (x : Int) : Bool × List Int := if st.1 = false ∧ k < x then (true, st.2 ++ [k] ++ [x]) else (st.1 || decide (k = x), st.2 ++ [x])
theorem ris_true (k : Int) (xs pre : List Int) : xs.foldl (risStep k) (true, pre) = (true, pre ++ xs) := by
  induction xs generalizing pre with
  | nil => simp
  | cons x xs ih => simp only [List.foldl_cons]; rw [show risStep k (true, pre) x = (true, pre ++ [x]) from by simp [risStep], ih]; simp
def fin (k : Int) (st : Bool × List Int) : List Int := if st.1 then st.2 else st.2 ++ [k]
theorem ris_false (k : Int) (xs pre : List Int) : fin k (xs.foldl (risStep k) (false, pre)) = pre ++ ins k xs := by
  induction xs generalizing pre with
  | nil => rfl
  | cons x xs ih =>
    simp only [List.foldl_cons]
    by_cases h1 : k < x
    · rw [show risStep k (false, pre) x = (true, pre ++ [k] ++ [x]) from by simp [risStep, h1], ris_true]; simp [fin, ins, h1]
    · by_cases h2 : k = x
      · rw [show risStep k (false, pre) x = (true, pre ++ [x]) from by simp [risStep, h2], ris_true]; simp [fin, ins, h2]
      · rw [show risStep k (false, pre) x = (false, pre ++ [x]) from by simp [risStep, h1, h2], ih]; simp [ins, h1, h2]
theorem ris_len (k : Int) (xs : List Int) (st : Bool × List Int) : (xs.foldl (risStep k) st).2.length ≤ st.2.length + 2 * xs.length := by
  induction xs generalizing st with
  | nil => simp
  | cons x xs ih =>
    simp only [List.foldl_cons]
    have h1 := ih (risStep k st x)
    have h2 : (risStep k st x).2.length ≤ st.2.length + 2 := by unfold risStep; split <;> simp
    simp only [List.length_cons]; omega
section
variable (k : Int) (W : World) (oa : Option Addr) (n ca : Nat) (xs : List Int) (hn : xs.length = n) (hl : n ≤ 1000) (ha : Rd W 0 oa (xs.map (.int .i64)))
include hn hl ha
set_option maxRecDepth 100000 in
set_option maxHeartbeats 4000000 in
theorem rising_calls : Calls Try.prog 24 #[.slice oa n ca, .int .i64 k] W fun e W' => ∃ lb cap, e = .returned (sl lb (ins k xs).length cap) ∧ Own W' W.heap.size 3 1 lb (ins k xs).length cap ((ins k xs).map (.int .i64)) ∧ Below W.heap.size W W' := by
  have HA := hide ha
  have HL := hide (And.intro hn hl)
  clear ha hl hn
  go_enter Try.func24, Try.ntmps24
  go_wp2
  go_loopw [5, 6, 7] (fun v5 v6 v7 wr => ∃ (i : Nat) (b : Bool) (out : List Int) (lb : Option Nat) (m cap : Nat), i ≤ n ∧ (xs.take i).foldl (risStep k) (false, []) = (b, out) ∧ out.length = m ∧ v5 = sl lb m cap ∧ v6 = .bool b ∧ v7 = .int .i64 (i : Int) ∧ Own wr W.heap.size 3 1 lb m cap (out.map (.int .i64)) ∧ Below W.heap.size W wr) (fun _ _ v7 _ => (n - intOf v7).toNat)
  case atStart => exact ⟨0, false, [], none, 0, 0, by omega, rfl, rfl, rfl, rfl, rfl, Own.nil _ _ _ _, Below.refl _ _⟩
  case round =>
    obtain ⟨i, b, out, lb, m, cap, hi, hf, hm, rfl, rfl, rfl, hO, hB⟩ := hrel
    have O := hide hO
    have BB := hide hB
    have HF := hide hf
    have HM := hide hm
    have HML := hide (show m ≤ 2000 from by
      have h1 := ris_len k (xs.take i) (false, [])
      rw [hf] at h1
      simp only [List.length_nil, List.length_take] at h1
      have := HL.out; omega)
    have HSZ := hide hB.size
    clear hO hB hf hm
    by_cases q : i < n
    · have q1 : ((i : Int) < (n : Int)) = True := eq_true (by omega)
      obtain ⟨x, hx⟩ : ∃ x, xs[i]? = some x := ⟨_, List.getElem?_eq_getElem (by have := HL.out; omega)⟩
      have hv : (xs.map (Value.int .i64))[i]? = some (.int .i64 x) := by rw [List.getElem?_map, hx]; rfl
      obtain ⟨a, rfl, _, hca⟩ := HA.out.at_ i _ hv
      have HC := hide (show ∀ V, Below W.heap.size W V → V.cell? (a.add i) = some (.int .i64 x) from fun V hV => (hV.cell (World.block_lt_of_cell? W _ hca)).trans hca)
      have lc := HC.out _ BB.out
      have hw : wrap64 ((i : Int) + 1) = ((i + 1 : Nat) : Int) := by have := HL.out; unfold wrap64; omega
      have HW := hide hw
      have HQ := hide q
      have HT := hide (show ∀ st, risStep k (b, out) x = st → (xs.take (i + 1)).foldl (risStep k) (false, []) = st from fun st h => by rw [List.take_add_one, hx, Option.toList_some, List.foldl_append, HF.out]; exact h)
      clear q hw hx hv hi hca
      by_cases c : b = false ∧ k < x
      · obtain ⟨rfl, c2⟩ := c
        have p1 := eq_true c2
        have HS := hide (HT.out (true, out ++ [k] ++ [x]) (by simp [risStep, c2]))
        clear c2
        go_wp2_with (first
          | (at_builtin; refine push_int _ rfl (.tmp 24) (.tmp 26) rfl W.heap.size lb m cap out rfl (O.out.alloc _) wr.heap.size 3 k rfl (bs_new rfl) (by have := HML.out; omega) (by simp; exact Nat.le_succ_of_le HSZ.out) ?_; intro lb2 cap2 w2 ho hg; have O2 := hide ho; have B2 := hide (below_grown (BB.out.alloc BB.out.size _) (by simp; exact Nat.le_succ_of_le HSZ.out) hg (row_base O.out)); have lc2 := HC.out _ B2.out; clear ho hg lc O)
          | (at_builtin; refine push_int _ rfl (.tmp 37) (.tmp 42) rfl W.heap.size lb2 (m + 1) cap2 (out ++ [k]) rfl (O2.out.alloc _) w2.heap.size 3 x rfl (bs_new rfl) (by have := HML.out; omega) (by have := B2.out.size; simp; omega) ?_; intro lb3 cap3 w3 ho hg; have O3 := hide ho; have B3 := hide (below_grown (B2.out.alloc B2.out.size _) (by have := B2.out.size; simp; omega) hg (row_base O2.out)); clear ho hg lc2 O2)
          | go_in)
        refine ⟨⟨i + 1, true, out ++ [k] ++ [x], lb3, m + 1 + 1, cap3, HQ.out, HS.out, by have := HM.out; simp; omega, rfl, rfl, by rw [HW.out], O3.out, B3.out⟩, ?_⟩
        rw [HW.out]; simp only [intOf]; have := HQ.out; omega
      · have HS := hide (HT.out (b || decide (k = x), out ++ [x]) (by simp only [risStep]; rw [if_neg c]))
        cases b with
        | true =>
          clear c
          go_wp2_with (first
            | (at_builtin; refine push_int _ rfl (.tmp 37) (.tmp 42) rfl W.heap.size lb m cap out rfl (O.out.alloc _) wr.heap.size 3 x rfl (bs_new rfl) (by have := HML.out; omega) (by simp; exact Nat.le_succ_of_le HSZ.out) ?_; intro lb2 cap2 w2 ho hg; have O2 := hide ho; have B2 := hide (below_grown (BB.out.alloc BB.out.size _) (by simp; exact Nat.le_succ_of_le HSZ.out) hg (row_base O.out)); clear ho hg lc O)
            | go_in)
          refine ⟨⟨i + 1, true, out ++ [x], lb2, m + 1, cap2, HQ.out, HS.out, by have := HM.out; simp; omega, rfl, rfl, by rw [HW.out], O2.out, B2.out⟩, ?_⟩
          rw [HW.out]; simp only [intOf]; have := HQ.out; omega
        | false =>
          have p1 : (k < x) = False := eq_false (fun h => c ⟨rfl, h⟩)
          clear c
          obtain ⟨e, he⟩ : ∃ e, e = (k == x) := ⟨_, rfl⟩
          have he2 : (false || decide (k = x)) = e := by rw [he]; by_cases h : k = x <;> simp [h]
          rw [he2] at HS
          have HE := hide he
          clear he he2
          go_wp2_with (first
            | (at_builtin; refine push_int _ rfl (.tmp 37) (.tmp 42) rfl W.heap.size lb m cap out rfl (O.out.alloc _) wr.heap.size 3 x rfl (bs_new rfl) (by have := HML.out; omega) (by simp; exact Nat.le_succ_of_le HSZ.out) ?_; intro lb2 cap2 w2 ho hg; have O2 := hide ho; have B2 := hide (below_grown (BB.out.alloc BB.out.size _) (by simp; exact Nat.le_succ_of_le HSZ.out) hg (row_base O.out)); clear ho hg lc O)
            | go_in)
          refine ⟨⟨i + 1, e, out ++ [x], lb2, m + 1, cap2, HQ.out, HS.out, by have := HM.out; simp; omega, rfl, by rw [HE.out], by rw [HW.out], O2.out, B2.out⟩, ?_⟩
          rw [HW.out]; simp only [intOf]; have := HQ.out; omega
    · have q1 : ((i : Int) < (n : Int)) = False := eq_false (by omega)
      have hfin : fin k (b, out) = ins k xs := by
        have h := ris_false k xs []
        rw [← HF.out, List.take_of_length_le (by have := HL.out; omega), h]; rfl
      clear q hi
      cases b with
      | true =>
        have e1 : out = ins k xs := by simpa [fin] using hfin
        have HE := hide e1
        clear e1 hfin
        go_wp2
        go_ret
        rw [← HE.out, HM.out]
        exact ⟨lb, cap, rfl, O.out, BB.out⟩
      | false =>
        have e1 : out ++ [k] = ins k xs := by simpa [fin] using hfin
        have HE := hide e1
        clear e1 hfin
        go_wp2_with (first
          | (at_builtin; refine push_int _ rfl (.tmp 46) (.tmp 48) rfl W.heap.size lb m cap out rfl (O.out.alloc _) wr.heap.size 3 k rfl (bs_new rfl) (by have := HML.out; omega) (by simp; exact Nat.le_succ_of_le HSZ.out) ?_; intro lb2 cap2 w2 ho hg; have O2 := hide ho; have B2 := hide (below_grown (BB.out.alloc BB.out.size _) (by simp; exact Nat.le_succ_of_le HSZ.out) hg (row_base O.out)); clear ho hg O)
          | go_in)
        go_ret
        rw [← HE.out, List.length_append, HM.out]
        exact ⟨lb2, cap2, rfl, O2.out, B2.out⟩
set_option maxRecDepth 100000 in
set_option maxHeartbeats 4000000 in
theorem without_calls : Calls Try.prog 25 #[.slice oa n ca, .int .i64 k] W fun e W' => ∃ lb cap, e = .returned (sl lb (ers k xs).length cap) ∧ Own W' W.heap.size 3 1 lb (ers k xs).length cap ((ers k xs).map (.int .i64)) ∧ Below W.heap.size W W' := by
  have HA := hide ha
  have HL := hide (And.intro hn hl)
  clear ha hl hn
  go_enter Try.func25, Try.ntmps25
  go_wp2
  go_loopw [5, 6] (fun v5 v6 wr => ∃ (i : Nat) (lb : Option Nat) (m cap : Nat), i ≤ n ∧ (ers k (xs.take i)).length = m ∧ v5 = sl lb m cap ∧ v6 = .int .i64 (i : Int) ∧ Own wr W.heap.size 3 1 lb m cap ((ers k (xs.take i)).map (.int .i64)) ∧ Below W.heap.size W wr) (fun _ v6 _ => (n - intOf v6).toNat)
  case atStart => exact ⟨0, none, 0, 0, by omega, rfl, rfl, rfl, Own.nil _ _ _ _, Below.refl _ _⟩
  case round =>
    obtain ⟨i, lb, m, cap, hi, hm, rfl, rfl, hO, hB⟩ := hrel
    have O := hide hO
    have BB := hide hB
    have HM := hide hm
    have HML := hide (show m ≤ 2000 from by
      have h1 := len_ers_le k (xs.take i)
      rw [List.length_take] at h1
      have := HL.out; omega)
    have HSZ := hide hB.size
    clear hO hB hm
    by_cases q : i < n
    · have q1 : ((i : Int) < (n : Int)) = True := eq_true (by omega)
      obtain ⟨x, hx⟩ : ∃ x, xs[i]? = some x := ⟨_, List.getElem?_eq_getElem (by have := HL.out; omega)⟩
      have hv : (xs.map (Value.int .i64))[i]? = some (.int .i64 x) := by rw [List.getElem?_map, hx]; rfl
      obtain ⟨a, rfl, _, hca⟩ := HA.out.at_ i _ hv
      have HC := hide (show ∀ V, Below W.heap.size W V → V.cell? (a.add i) = some (.int .i64 x) from fun V hV => (hV.cell (World.block_lt_of_cell? W _ hca)).trans hca)
      have lc := HC.out _ BB.out
      have hw : wrap64 ((i : Int) + 1) = ((i + 1 : Nat) : Int) := by have := HL.out; unfold wrap64; omega
      have HW := hide hw
      have HQ := hide q
      have HT : ers k (xs.take (i + 1)) = ers k (xs.take i) ++ ers k [x] := by rw [List.take_add_one, hx, Option.toList_some]; simp [ers]
      clear q hw hx hv hi hca
      by_cases c : x = k
      · have p1 : (x = k) = True := eq_true c
        have HT2 := hide (show ers k (xs.take (i + 1)) = ers k (xs.take i) from by rw [HT]; simp [ers, c])
        subst c
        clear HT p1
        go_wp2
        refine ⟨⟨i + 1, lb, m, cap, HQ.out, by rw [HT2.out]; exact HM.out, rfl, by rw [HW.out], by rw [HT2.out]; exact O.out, BB.out⟩, ?_⟩
        rw [HW.out]; simp only [intOf]; have := HQ.out; omega
      · have p1 : (x == k) = false := by simp [c]
        have p2 : (x != k) = true := by simp [c]
        have HT2 := hide (show ers k (xs.take (i + 1)) = ers k (xs.take i) ++ [x] from by rw [HT]; simp [ers, c])
        have c1 : (x = k) = False := eq_false c
        clear HT c
        go_wp2_with (first
          | (at_builtin; refine push_int _ rfl (.tmp 19) (.tmp 24) rfl W.heap.size lb m cap _ rfl (O.out.alloc _) wr.heap.size 3 x rfl (bs_new rfl) (by have := HML.out; omega) (by simp; exact Nat.le_succ_of_le HSZ.out) ?_; intro lb2 cap2 w2 ho hg; have O2 := hide ho; have B2 := hide (below_grown (BB.out.alloc BB.out.size _) (by simp; exact Nat.le_succ_of_le HSZ.out) hg (row_base O.out)); clear ho hg lc O)
          | go_in)
        refine ⟨⟨i + 1, lb2, m + 1, cap2, HQ.out, by rw [HT2.out, List.length_append, HM.out]; rfl, rfl, by rw [HW.out], by rw [HT2.out]; exact O2.out, B2.out⟩, ?_⟩
        rw [HW.out]; simp only [intOf]; have := HQ.out; omega
    · have q1 : ((i : Int) < (n : Int)) = False := eq_false (by omega)
      have HE := hide (show xs.take i = xs from List.take_of_length_le (by have := HL.out; omega))
      clear q hi
      go_wp2
      go_ret
      rw [HE.out] at O HM
      rw [HM.out]
      exact ⟨lb, cap, rfl, O.out, BB.out⟩
end
/-- The reference's lock at block r. -/
structure Rk (w W : World) (r : Nat) (lb : Option Nat) (cap : Nat) (s : St) : Prop where
  obj : W.heap[r]? = some (.cells #[.bool s.1.isSome, .int .i64 (s.1.getD 0), sl lb s.2.length cap] 37 (0, 0))
  own : Own W (r + 1) 3 1 lb s.2.length cap (s.2.map (.int .i64))
  ge : w.heap.size ≤ r
  below : Below w.heap.size w W
/-- What turns: the lock's own block. -/
abbrev Only (W W' : World) (r : Nat) : Prop := Turn W W' r r
section
variable {w W W' : World} {r : Nat} {lb : Option Nat} {cap : Nat} {s : St}
theorem Rk.lt (h : Rk w W r lb cap s) : r < W.heap.size := bs_lt h.obj
theorem Rk.then_ (h : Rk w W r lb cap s) (hb : Below W.heap.size W W') : Rk w W' r lb cap s := ⟨bs_below hb h.lt h.obj, h.own.below hb, h.ge, h.below.trans (hb.mono h.below.size)⟩
theorem Rk.c (h : Rk w W r lb cap s) : W.cell? ⟨r, 0, none⟩ = some (.bool s.1.isSome) ∧ W.cell? ⟨r, 1, none⟩ = some (.int .i64 (s.1.getD 0)) ∧ W.cell? ⟨r, 2, none⟩ = some (sl lb s.2.length cap) := by
  obtain ⟨a, b, c, _⟩ := cells3 h.obj
  exact ⟨a, b, c⟩
theorem Rk.other {g B : Nat} (h : Rk w W r lb cap s) (t : Turn W W' g B) (hg : w.heap.size ≤ g) (hB : w.heap.size ≤ B) (n1 : r ≠ g) (n2 : r ≠ B) (n3 : ∀ b, lb = some b → b ≠ g ∧ b ≠ B) : Rk w W' r lb cap s :=
  ⟨(t.block r h.lt n1 n2).trans h.obj, h.own.keep fun b hb hlt => t.block b hlt (n3 b hb).1 (n3 b hb).2, h.ge, below_turn h.below hg hB t⟩
theorem Rk.set (h : Rk w W r lb cap s) (a : Option Int) : Rk w ((W.setCell ⟨r, 0, none⟩ (.bool a.isSome)).setCell ⟨r, 1, none⟩ (.int .i64 (a.getD 0))) r lb cap (a, s.2) := by
  have t := (Turn.set W r r 0 (.bool a.isSome)).trans (Turn.set _ r r 1 (.int .i64 (a.getD 0)))
  exact ⟨bs_same (i := 1) (bs_same (i := 0) h.obj), h.own.keep fun b hb hlt => t.block b hlt (by subst hb; have := (own_base h.own).1; omega) (by subst hb; have := (own_base h.own).1; omega), h.ge, below_turn h.below h.ge h.ge t⟩
theorem Rk.row (h : Rk w W r lb cap s) {lb2 : Option Nat} {cap2 : Nat} {ys : List Int} (o : Own W (r + 1) 3 1 lb2 ys.length cap2 (ys.map (.int .i64))) : Rk w (W.setCell ⟨r, 2, none⟩ (sl lb2 ys.length cap2)) r lb2 cap2 (s.1, ys) := by
  have t := Turn.set W r r 2 (sl lb2 ys.length cap2)
  exact ⟨bs_same (i := 2) h.obj, o.keep fun b hb hlt => t.block b hlt (by subst hb; have := (own_base o).1; omega) (by subst hb; have := (own_base o).1; omega), h.ge, below_turn h.below h.ge h.ge t⟩
end
section
variable (k : Int) (w W : World) (r : Nat) (lb : Option Nat) (cap : Nat) (s : St) (h : Rk w W r lb cap s) (hl : s.2.length ≤ 1000)
include h hl
theorem rwrite_calls : Calls Try.prog 15 #[.pointer (some ⟨r, 0, none⟩), .int .i64 k] W fun e W' => e = .returned (.bool (sWrite s k).1) ∧ Rk w W' r lb cap (sWrite s k).2 ∧ Turn W W' r r := by
  have H := hide h
  have HL := hide hl
  obtain ⟨c0, c1, c2⟩ := h.c
  have fz := fun j => bs_frozen h.obj j
  clear h hl
  obtain ⟨q, hq⟩ := sl_to lb s.2.length cap
  rw [hq] at c2
  clear hq
  obtain ⟨a, xs⟩ := s
  cases a with
  | some n =>
    have e2 : sWrite (some n, xs) k = (false, (some n, xs)) := rfl
    rw [e2]
    simp only [Option.isSome_some, Option.getD_some] at c0 c1 c2
    go_enter Try.func15, Try.ntmps15
    go_wp2
    go_ret
    exact ⟨rfl, H.out, .refl _ _ _⟩
  | none =>
    simp only [Option.isSome_none, Option.getD_none] at c0 c1 c2
    cases xs with
    | cons x xs =>
      have e2 : sWrite (none, x :: xs) k = (false, (none, x :: xs)) := rfl
      rw [e2]
      obtain ⟨m, hm⟩ : ∃ m, m = (x :: xs).length := ⟨_, rfl⟩
      rw [← hm] at c2
      have p1 : ((0 : Int) < (m : Int)) = True := eq_true (by rw [hm]; simp <;> omega)
      have p2 : (0 < m) = True := eq_true (by rw [hm]; simp)
      clear hm
      go_enter Try.func15, Try.ntmps15
      go_wp2
      go_ret
      exact ⟨rfl, H.out, .refl _ _ _⟩
    | nil =>
      have e2 : sWrite (none, []) k = (true, (some k, [])) := rfl
      rw [e2]
      simp only [List.length_nil] at c2
      go_enter Try.func15, Try.ntmps15
      go_wp2
      go_ret
      exact ⟨rfl, H.out.set (some k), (Turn.set W r r 0 _).trans (Turn.set _ r r 1 _)⟩
theorem rread_calls (hu : Up s.2) : Calls Try.prog 16 #[.pointer (some ⟨r, 0, none⟩), .int .i64 k] W fun e W' => ∃ lb2 cap2, e = .returned (.bool (sRead s k).1) ∧ Rk w W' r lb2 cap2 (sRead s k).2 ∧ Turn W W' r r := by
  have H := hide h
  have HL := hide hl
  have HU := hide hu
  obtain ⟨c0, c1, c2⟩ := h.c
  have fz := fun j => bs_frozen h.obj j
  obtain ⟨oa, hoa⟩ : ∃ oa, oa = lb.map fun b => (⟨b, 0, none⟩ : Addr) := ⟨_, rfl⟩
  have hsl : sl lb s.2.length cap = .slice oa s.2.length cap := by rw [hoa]; rfl
  have RD := hide (show Rd W 0 oa (s.2.map (.int .i64)) from by rw [hoa]; exact (Rd.of h.own).lower (Nat.zero_le _))
  rw [hsl] at c2
  obtain ⟨n, hn⟩ : ∃ n, s.2.length = n := ⟨_, rfl⟩
  rw [hn] at c2 hl
  have HR := hide (rising_calls k W oa n cap s.2 hn hl RD.out)
  have HN := hide hn
  clear h hl hu hsl hoa hn
  obtain ⟨m, hm⟩ : ∃ m, m = (ins k s.2).length := ⟨_, rfl⟩
  rw [← hm] at HR
  have HM := hide hm
  clear hm
  obtain ⟨a, xs⟩ := s
  have HF : ∀ W' lb' cap', Own W' W.heap.size 3 1 lb' m cap' ((ins k xs).map (.int .i64)) → Own W' (r + 1) 3 1 lb' (ins k xs).length cap' ((ins k xs).map (.int .i64)) := fun W' lb' cap' o => by rw [← HM.out]; exact o.lower H.out.lt
  have HFH := hide HF
  clear HF
  cases a with
  | some n0 =>
    have e2 : sRead (some n0, xs) k = (false, (some n0, xs)) := rfl
    rw [e2]
    simp only [Option.isSome_some, Option.getD_some] at c0 c1
    go_enter Try.func16, Try.ntmps16
    go_wp2_with (first
      | (go_at_call 24; refine HR.out.mono ?_; rintro e W2 ⟨lb2, cap2, rfl, ho, hb⟩; obtain ⟨q, hq⟩ := sl_to lb2 m cap2; rw [hq]; have H2 := hide (H.out.then_ hb); have T2 := hide (Turn.below hb r r); clear ho hb hq HR; obtain ⟨d0, d1, d2⟩ := H2.out.c; simp only [Option.isSome_some, Option.getD_some] at d0 d1)
      | go_in)
    go_ret
    exact ⟨lb, cap, rfl, H2.out, T2.out⟩
  | none =>
    simp only [Option.isSome_none, Option.getD_none] at c0 c1
    by_cases hx : k ∈ xs
    · have e2 : sRead (none, xs) k = (false, (none, xs)) := by simp [sRead, hx]
      rw [e2]
      have hmn : m = n := by rw [HM.out, ← HN.out, ins_mem HU.out hx]
      subst hmn
      clear hx
      go_enter Try.func16, Try.ntmps16
      go_wp2_with (first
        | (go_at_call 24; refine HR.out.mono ?_; rintro e W2 ⟨lb2, cap2, rfl, ho, hb⟩; obtain ⟨q, hq⟩ := sl_to lb2 m cap2; rw [hq]; have H2 := hide (H.out.then_ hb); have T2 := hide (Turn.below hb r r); have d0 := (hb.cell (World.block_lt_of_cell? W _ c0)).trans c0; have d2 := (hb.cell (World.block_lt_of_cell? W _ c2)).trans c2; clear ho hb hq HR c0 c1 c2)
        | go_in)
      go_ret
      exact ⟨lb, cap, rfl, H2.out, T2.out⟩
    · have e2 : sRead (none, xs) k = (true, (none, ins k xs)) := by simp [sRead, hx]
      rw [e2]
      have p0 : ¬ ((m : Int) = (n : Int)) := by have h1 := len_ins hx; have h2 := HM.out; have h3 := HN.out; simp only at h2 h3; omega
      have p1 : ((m : Int) == (n : Int)) = false := by simpa using p0
      have p2 : ((m : Int) = (n : Int)) = False := eq_false p0
      have p3 : (m = n) = False := eq_false (fun e => p0 (by rw [e]))
      clear hx p0
      go_enter Try.func16, Try.ntmps16
      go_wp2_with (first
        | (go_at_call 24; refine HR.out.mono ?_; rintro e W2 ⟨lb2, cap2, rfl, ho, hb⟩; obtain ⟨q, hq⟩ : ∃ q, sl lb2 m cap2 = .slice q m cap2 := sl_to lb2 m cap2; rw [hq]; have HSL := hide hq; have O2 := hide (HFH.out _ _ _ ho); have H2 := hide (H.out.then_ hb); have T2 := hide (Turn.below hb r r); have fz2 := fun j => bs_frozen H2.out.obj j; have d0 := (hb.cell (World.block_lt_of_cell? W _ c0)).trans c0; have d2 := (hb.cell (World.block_lt_of_cell? W _ c2)).trans c2; clear ho hb hq HR c0 c1 c2 fz)
        | go_in)
      go_ret
      refine ⟨lb2, cap2, rfl, ?_, T2.out.trans (Turn.set W2 r r 2 _)⟩
      have := H2.out.row O2.out
      rw [← HM.out, HSL.out] at this
      exact this
theorem rleave_calls (hok : Ok s) (hu : Up s.2) : Calls Try.prog 17 #[.pointer (some ⟨r, 0, none⟩), .int .i64 k] W fun e W' => ∃ lb2 cap2, e = .returned (.bool (sLeave s k).1) ∧ Rk w W' r lb2 cap2 (sLeave s k).2 ∧ Turn W W' r r := by
  have H := hide h
  have HL := hide hl
  obtain ⟨c0, c1, c2⟩ := h.c
  have fz := fun j => bs_frozen h.obj j
  obtain ⟨oa, hoa⟩ : ∃ oa, oa = lb.map fun b => (⟨b, 0, none⟩ : Addr) := ⟨_, rfl⟩
  have hsl : sl lb s.2.length cap = .slice oa s.2.length cap := by rw [hoa]; rfl
  have RD := hide (show Rd W 0 oa (s.2.map (.int .i64)) from by rw [hoa]; exact (Rd.of h.own).lower (Nat.zero_le _))
  rw [hsl] at c2
  obtain ⟨n, hn⟩ : ∃ n, s.2.length = n := ⟨_, rfl⟩
  rw [hn] at c2 hl
  have HR := hide (without_calls k W oa n cap s.2 hn hl RD.out)
  have HN := hide hn
  have HU := hide hu
  have HOK := hide hok
  clear h hl hsl hoa hn hu hok
  obtain ⟨m, hm⟩ : ∃ m, m = (ers k s.2).length := ⟨_, rfl⟩
  rw [← hm] at HR
  have HM := hide hm
  clear hm
  obtain ⟨a, xs⟩ := s
  have HF : ∀ W' lb' cap', Own W' W.heap.size 3 1 lb' m cap' ((ers k xs).map (.int .i64)) → Own W' (r + 1) 3 1 lb' (ers k xs).length cap' ((ers k xs).map (.int .i64)) := fun W' lb' cap' o => by rw [← HM.out]; exact o.lower H.out.lt
  have HFH := hide HF
  clear HF
  cases a with
  | some n0 =>
    simp only [Option.isSome_some, Option.getD_some] at c0 c1
    by_cases hc : n0 = k
    · subst hc
      have e2 : sLeave (some n0, xs) n0 = (true, (none, xs)) := by simp [sLeave]
      rw [e2]
      go_enter Try.func17, Try.ntmps17
      go_wp2
      go_ret
      exact ⟨rfl, ⟨lb, cap, H.out.set none⟩, (Turn.set W r r 0 _).trans (Turn.set _ r r 1 _)⟩
    · have e2 : sLeave (some n0, xs) k = (false, (some n0, xs)) := by simp [sLeave, hc]
      rw [e2]
      have hx0 : xs = [] := HOK.out rfl
      have hmn : m = n := by rw [HM.out, ← HN.out]; simp [hx0, ers]
      subst hmn
      have p1 : (n0 == k) = false := by simp [hc]
      have p2 : (n0 = k) = False := eq_false hc
      clear hc hx0
      go_enter Try.func17, Try.ntmps17
      go_wp2_with (first
        | (go_at_call 25; refine HR.out.mono ?_; rintro e W2 ⟨lb2, cap2, rfl, ho, hb⟩; obtain ⟨q, hq⟩ : ∃ q, sl lb2 m cap2 = .slice q m cap2 := sl_to lb2 m cap2; rw [hq]; have H2 := hide (H.out.then_ hb); have T2 := hide (Turn.below hb r r); have d0 := (hb.cell (World.block_lt_of_cell? W _ c0)).trans c0; have d2 := (hb.cell (World.block_lt_of_cell? W _ c2)).trans c2; clear ho hb hq HR c0 c1 c2 fz)
        | go_in)
      go_ret
      exact ⟨lb, cap, rfl, H2.out, T2.out⟩
  | none =>
    simp only [Option.isSome_none, Option.getD_none] at c0 c1
    by_cases hx : k ∈ xs
    · have e2 : sLeave (none, xs) k = (true, (none, ers k xs)) := by simp [sLeave, hx]
      rw [e2]
      have p0 : ¬ ((m : Int) = (n : Int)) := by have h1 := len_ers HU.out hx; have h2 := HM.out; have h3 := HN.out; simp only at h1 h2 h3; omega
      have p1 : ((m : Int) == (n : Int)) = false := by simpa using p0
      have p2 : ((m : Int) = (n : Int)) = False := eq_false p0
      have p3 : (m = n) = False := eq_false (fun e => p0 (by rw [e]))
      clear hx p0
      go_enter Try.func17, Try.ntmps17
      go_wp2_with (first
        | (go_at_call 25; refine HR.out.mono ?_; rintro e W2 ⟨lb2, cap2, rfl, ho, hb⟩; obtain ⟨q, hq⟩ : ∃ q, sl lb2 m cap2 = .slice q m cap2 := sl_to lb2 m cap2; rw [hq]; have HSL := hide hq; have O2 := hide (HFH.out _ _ _ ho); have H2 := hide (H.out.then_ hb); have T2 := hide (Turn.below hb r r); have fz2 := fun j => bs_frozen H2.out.obj j; have d0 := (hb.cell (World.block_lt_of_cell? W _ c0)).trans c0; have d2 := (hb.cell (World.block_lt_of_cell? W _ c2)).trans c2; clear ho hb hq HR c0 c1 c2 fz)
        | go_in)
      go_ret
      refine ⟨lb2, cap2, rfl, ?_, T2.out.trans (Turn.set W2 r r 2 _)⟩
      have := H2.out.row O2.out
      rw [← HM.out, HSL.out] at this
      exact this
    · have e2 : sLeave (none, xs) k = (false, (none, xs)) := by simp [sLeave, hx, ers_not hx]
      rw [e2]
      have hmn : m = n := by rw [HM.out, ← HN.out]; exact congrArg List.length (ers_not hx)
      subst hmn
      clear hx
      go_enter Try.func17, Try.ntmps17
      go_wp2_with (first
        | (go_at_call 25; refine HR.out.mono ?_; rintro e W2 ⟨lb2, cap2, rfl, ho, hb⟩; obtain ⟨q, hq⟩ : ∃ q, sl lb2 m cap2 = .slice q m cap2 := sl_to lb2 m cap2; rw [hq]; have H2 := hide (H.out.then_ hb); have T2 := hide (Turn.below hb r r); have d0 := (hb.cell (World.block_lt_of_cell? W _ c0)).trans c0; have d2 := (hb.cell (World.block_lt_of_cell? W _ c2)).trans c2; clear ho hb hq HR c0 c1 c2 fz)
        | go_in)
      go_ret
      exact ⟨lb, cap, rfl, H2.out, T2.out⟩
end
end Go.Proofs.Ytkgfnldcgdlffaa.LockRef


