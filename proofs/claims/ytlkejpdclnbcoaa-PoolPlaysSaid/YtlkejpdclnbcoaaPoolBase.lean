/- Pools: what the functions of the package pool do with frames that hold no rows: contracts, for every pool, without a condition of their own. -/
import Derived.WalkKit
import Derived.KernelRfl
import Derived.StillTailTactics
import Derived.Deep.MidRow
import Derived.Laws.MakeOwn
import Derived.Laws.Rows
import Derived.Test.YtlkejpdclnbcoaaKit
import Derived.Test.YtlkejpdclnbcoaaWWords
import Derived.Test.YtlkejpdclnbcoaaWLast
import Derived.Test.YtlkejpdclnbcoaaProg
namespace Go.Proofs.Ytlkejpdclnbcoaa.PoolBase
open Go.RowKit Go.Proofs.YtlkejpdclnbcoaaKit Go.Proofs.YtlkejpdclnbcoaaW.PrintWords Go.Proofs.YtlkejpdclnbcoaaW.PrintLast
attribute [local go_sem] cell_alloc_some cell_alloc2_some cell_alloc3_some cell_alloc4_some
set_option linter.unusedVariables false
set_option linter.unusedSimpArgs false
def bc (b : Int × Int × Bool) : List Value := [.int .i64 b.1, .int .i64 0, .slice none 0 0, .int .i64 0, .int .i64 0, .bool false, .int .i64 b.2.1, .bool b.2.2]
def flat (bs : List (Int × Int × Bool)) : List Value := bs.flatMap bc
theorem flat_cons (b : Int × Int × Bool) (bs : List (Int × Int × Bool)) : flat (b :: bs) = bc b ++ flat bs := by simp [flat]
theorem flat_len (bs : List (Int × Int × Bool)) : (flat bs).length = 8 * bs.length := by
  induction bs with
  | nil => rfl
  | cons b bs ih => rw [flat_cons, List.length_append, ih]; simp [bc]; omega
theorem flat_get (bs : List (Int × Int × Bool)) (i j k : Nat) (b : Int × Int × Bool) (hb : bs[i]? = some b) (hj : j < 8) (hk : k = 8 * i + j) : (flat bs)[k]? = (bc b)[j]? := by
  subst hk
  induction bs generalizing i with
  | nil => simp at hb
  | cons b0 bs ih =>
    rw [flat_cons]
    cases i with
    | zero =>
      simp at hb; subst hb
      rw [List.getElem?_append_left (by simp [bc]; omega)]
      simp
    | succ i =>
      simp at hb
      have hl : (bc b0).length = 8 := rfl
      rw [List.getElem?_append_right (by omega), hl, show 8 * (i + 1) + j - 8 = 8 * i + j by omega]
      exact ih i hb
theorem flat_set (bs : List (Int × Int × Bool)) (i k : Nat) (w n : Int) (t : Bool) (hi : i < bs.length) (hk : k = 8 * i) :
    (((((((((flat bs).set k (.int .i64 w)).set (k + 1) (.int .i64 0)).set (k + 2) (.slice none 0 0)).set (k + 3) (.int .i64 0)).set (k + 4) (.int .i64 0)).set (k + 5) (.bool false)).set (k + 6) (.int .i64 n)).set (k + 7) (.bool t)) = flat (bs.set i (w, n, t)) := by
  subst hk
  induction bs generalizing i with
  | nil => simp at hi
  | cons b0 bs ih =>
    cases i with
    | zero =>
      rw [List.set_cons_zero, flat_cons, flat_cons]
      simp [bc]
    | succ i =>
      rw [List.set_cons_succ, flat_cons, flat_cons]
      have hl : (bc b0).length = 8 := rfl
      have h := ih i (by simpa using hi)
      have ha : ∀ (l : List Value) (m : Nat) (v : Value), (bc b0 ++ l).set (8 * (i + 1) + m) v = bc b0 ++ l.set (8 * i + m) v := fun l m v => by
        rw [List.set_append_right _ _ (by omega), hl, show 8 * (i + 1) + m - 8 = 8 * i + m by omega]
      have h0 : ∀ (l : List Value) (v : Value), (bc b0 ++ l).set (8 * (i + 1)) v = bc b0 ++ l.set (8 * i) v := fun l v => ha l 0 v
      rw [h0, ha, ha, ha, ha, ha, ha, ha, h]

/-- A frame that holds no rows. -/
def fr (a : Int) : Value := .agg #[.int .i64 a, .int .i64 0, .slice none 0 0, .int .i64 0, .int .i64 0, .bool false]
set_option maxHeartbeats 8000000 in
set_option maxRecDepth 100000 in
theorem still (a : Int) (w : World) : Calls Try.prog 21 #[fr a] w fun e w' => e = .returned (fr a) ∧ Below w.heap.size w w' := by
  unfold fr
  go_enter Try.func21, Try.ntmps21
  go_wp2
  apply wp_letter2 (w.heap.size) w (w.heap.size) 26 (w.heap.size + 1) 26
  case h0 => (repeat (first | (with_reducible assumption) | (with_reducible apply bs_same) | (with_reducible apply bs_far; case hp => (dsimp only; omega)) | (with_reducible apply bs_drew) | (with_reducible apply bs_drewN) | (with_reducible apply bs_new; (first | (with_reducible rfl) | (simp; done))) | (with_reducible apply bs_alloc) | (with_reducible apply bs_below; (case hb => with_reducible assumption); (case hB => first | omega | (simp; omega) | (simp; done)))))
  case h1 => (repeat (first | (with_reducible assumption) | (with_reducible apply bs_same) | (with_reducible apply bs_far; case hp => (dsimp only; omega)) | (with_reducible apply bs_drew) | (with_reducible apply bs_drewN) | (with_reducible apply bs_new; (first | (with_reducible rfl) | (simp; done))) | (with_reducible apply bs_alloc) | (with_reducible apply bs_below; (case hb => with_reducible assumption); (case hB => first | omega | (simp; omega) | (simp; done)))))
  case hb => (repeat (first | (with_reducible assumption) | with_reducible exact be_refl _ | (with_reducible refine be_set ?_ (by dsimp only; omega)) | (with_reducible apply be_drew) | (with_reducible apply be_drewN) | (with_reducible refine be_alloc ?_ (by first | omega | (simp; omega) | simp)) | (with_reducible refine be_call (by with_reducible assumption) (by first | omega | (simp; omega) | simp) ?_)))
  intro w1_ k1_0 k1_1 HB1
  try simp only [List.setIfInBounds_toArray, List.set_cons_zero, List.set_cons_succ] at k1_0 k1_1
  obtain ⟨c1_0_0, c1_0_1, c1_0_2, c1_0_3, c1_0_4, c1_0_5, f1_0⟩ := cells6 k1_0
  have s1_0 := bs_lt k1_0
  obtain ⟨c1_1_0, c1_1_1, c1_1_2, c1_1_3, c1_1_4, c1_1_5, f1_1⟩ := cells6 k1_1
  have s1_1 := bs_lt k1_1
  go_loopw [3, 9] (fun v3 v9 wr => v3 = .slice none 0 0 ∧ v9 = .int .i64 0 ∧ wr = w1_) (fun _ _ _ => 0)
  case atStart => exact ⟨rfl, rfl, rfl⟩
  case round =>
    obtain ⟨rfl, rfl, rfl⟩ := hrel
    go_wp2
    refine bodyPost_ret (results_cell_row rfl _ _ (w.heap.size + 1) 26 #[.int .i64 a, .int .i64 0, .slice none 0 0, .int .i64 0, .int .i64 0, .bool false] (0, 0) _ rfl ?_ Try.underlying26 rfl (by kernel_rfl)) rfl ?_
    · (apply bs_eq; (case h => (repeat (first | (with_reducible assumption) | (with_reducible apply bs_same) | (with_reducible apply bs_far; case hp => (dsimp only; omega)) | (with_reducible apply bs_drew) | (with_reducible apply bs_drewN) | (with_reducible apply bs_new; (first | (with_reducible rfl) | (simp; done))) | (with_reducible apply bs_alloc) | (with_reducible apply bs_below; (case hb => with_reducible assumption); (case hB => first | omega | (simp; omega) | (simp; done)))))); (case e => rfl))
    · exact ⟨rfl, by (repeat (first | (with_reducible assumption) | with_reducible exact be_refl _ | (with_reducible refine be_set ?_ (by dsimp only; omega)) | (with_reducible apply be_drew) | (with_reducible apply be_drewN) | (with_reducible refine be_alloc ?_ (by first | omega | (simp; omega) | simp)) | (with_reducible refine be_call (by with_reducible assumption) (by first | omega | (simp; omega) | simp) ?_)))⟩
/-- A pool of the buffers bs; w: the world that the law began in. -/
structure Pl (w W : World) (g pb : Nat) (bs : List (Int × Int × Bool)) : Prop where
  pool : W.heap[g]? = some (.cells #[.slice (some ⟨pb, 0, none⟩) bs.length bs.length] 62 (0, 0))
  rows : W.heap[pb]? = some (.cells (flat bs).toArray 78 (0, 0))
  ne : g ≠ pb
  geg : w.heap.size ≤ g
  gep : w.heap.size ≤ pb
  below : Below w.heap.size w W
theorem Pl.below_then {w W W' : World} {g pb : Nat} {bs : List (Int × Int × Bool)} (h : Pl w W g pb bs) (hb : Below W.heap.size W W') : Pl w W' g pb bs :=
  ⟨bs_below hb (bs_lt h.pool) h.pool, bs_below hb (bs_lt h.rows) h.rows, h.ne, h.geg, h.gep, be_call hb h.below.size h.below⟩
theorem Pl.cell0 {w W : World} {g pb : Nat} {bs : List (Int × Int × Bool)} (h : Pl w W g pb bs) : W.cell? ⟨g, 0, none⟩ = some (.slice (some ⟨pb, 0, none⟩) bs.length bs.length) := (bs_cell h.pool 0).trans rfl
theorem Pl.cell {w W : World} {g pb : Nat} {bs : List (Int × Int × Bool)} (h : Pl w W g pb bs) (i j k : Nat) (b : Int × Int × Bool) (hb : bs[i]? = some b) (hj : j < 8) (hk : k = 8 * i + j) : W.cell? ⟨pb, k, none⟩ = (bc b)[j]? := by
  rw [bs_cell h.rows k, List.getElem?_toArray]
  exact flat_get bs i j k b hb hj hk
theorem Pl.cells {w W : World} {g pb : Nat} {bs : List (Int × Int × Bool)} (h : Pl w W g pb bs) (i : Nat) (b : Int × Int × Bool) (hb : bs[i]? = some b) :
    W.cell? ⟨pb, i * 8, none⟩ = some (.int .i64 b.1) ∧ W.cell? ⟨pb, i * 8 + 1, none⟩ = some (.int .i64 0) ∧ W.cell? ⟨pb, i * 8 + 2, none⟩ = some (.slice none 0 0) ∧ W.cell? ⟨pb, i * 8 + 3, none⟩ = some (.int .i64 0) ∧ W.cell? ⟨pb, i * 8 + 4, none⟩ = some (.int .i64 0) ∧ W.cell? ⟨pb, i * 8 + 5, none⟩ = some (.bool false) ∧ W.cell? ⟨pb, i * 8 + 6, none⟩ = some (.int .i64 b.2.1) ∧ W.cell? ⟨pb, i * 8 + 7, none⟩ = some (.bool b.2.2) :=
  ⟨(h.cell i 0 _ b hb (by omega) (by omega)).trans rfl, (h.cell i 1 _ b hb (by omega) (by omega)).trans rfl, (h.cell i 2 _ b hb (by omega) (by omega)).trans rfl, (h.cell i 3 _ b hb (by omega) (by omega)).trans rfl, (h.cell i 4 _ b hb (by omega) (by omega)).trans rfl, (h.cell i 5 _ b hb (by omega) (by omega)).trans rfl, (h.cell i 6 _ b hb (by omega) (by omega)).trans rfl, (h.cell i 7 _ b hb (by omega) (by omega)).trans rfl⟩
theorem has_calls (i : Int) (w W : World) (g pb : Nat) (bs : List (Int × Int × Bool)) (h : Pl w W g pb bs) :
    Calls Try.prog 22 #[.pointer (some ⟨g, 0, none⟩), .int .i64 i] W fun e W' => e = .returned (.bool (decide (0 ≤ i) && decide (i < bs.length))) ∧ W' = W := by
  have c0 := h.cell0
  generalize bs.length = n at *
  clear h
  go_enter Try.func22, Try.ntmps22
  go_wp2
  all_goals go_ret
  all_goals (refine ⟨?_, rfl⟩; first | (simp [*]; done) | (simp [*]; omega))
theorem gen_calls (i : Int) (v : Int) (w W : World) (g pb : Nat) (bs : List (Int × Int × Bool)) (h : Pl w W g pb bs) (hv : (i < 0 ∨ (bs.length : Int) ≤ i) ∧ v = 0 ∨ ∃ b, 0 ≤ i ∧ bs[i.toNat]? = some b ∧ v = b.2.1) :
    Calls Try.prog 14 #[.pointer (some ⟨g, 0, none⟩), .int .i64 i] W fun e W' => e = .returned (.int .i64 v) ∧ W' = W := by
  have c0 := h.cell0
  have H := hide (has_calls i w W g pb bs h)
  rcases hv with ⟨h1, rfl⟩ | ⟨b, h0, hb, rfl⟩
  · have hd : (decide (0 ≤ i) && decide (i < bs.length)) = false := by simp; omega
    rw [hd] at H
    clear hd h
    go_enter Try.func14, Try.ntmps14
    go_wp2_with (go_at_call 22; with_reducible refine H.out.mono ?_; rintro e v ⟨rfl, hv⟩; subst v)
    go_ret
    exact ⟨rfl, rfl⟩
  · have hl : i.toNat < bs.length := (List.getElem?_eq_some_iff.1 hb).1
    have hd : (decide (0 ≤ i) && decide (i < bs.length)) = true := by simp; omega
    rw [hd] at H
    obtain ⟨_, _, _, _, _, _, cg, _⟩ := h.cells i.toNat b hb
    have h1 : i < (bs.length : Int) := by omega
    clear hd h hb
    go_enter Try.func14, Try.ntmps14
    go_wp2_with (go_at_call 22; with_reducible refine H.out.mono ?_; rintro e v ⟨rfl, hv⟩; subst v)
    go_ret
    exact ⟨rfl, rfl⟩
def freeN (bs : List (Int × Int × Bool)) : Int := (((bs.filter fun b => !b.2.2).length : Nat) : Int)
theorem freeN_take (bs : List (Int × Int × Bool)) (i : Nat) (b : Int × Int × Bool) (hb : bs[i]? = some b) : freeN (bs.take (i + 1)) = freeN (bs.take i) + (if b.2.2 = true then 0 else 1) := by
  unfold freeN
  rw [List.take_add_one, hb, Option.toList_some, List.filter_append, List.length_append]
  cases hb2 : b.2.2 <;> simp [hb2]
theorem freeN_le (bs : List (Int × Int × Bool)) (i : Nat) : 0 ≤ freeN (bs.take i) ∧ freeN (bs.take i) ≤ i := by
  unfold freeN
  have h1 := List.length_filter_le (fun b : Int × Int × Bool => !b.2.2) (bs.take i)
  have h2 := List.length_take_le i bs
  omega
set_option maxHeartbeats 8000000 in
set_option maxRecDepth 100000 in
theorem free_calls (w W : World) (g pb : Nat) (bs : List (Int × Int × Bool)) (h : Pl w W g pb bs) (hn : bs.length ≤ 1000) :
    Calls Try.prog 15 #[.pointer (some ⟨g, 0, none⟩)] W fun e W' => e = .returned (.int .i64 (freeN bs)) ∧ Pl w W' g pb bs ∧ Below W.heap.size W W' := by
  have c0 := h.cell0
  have P0 := hide h
  obtain ⟨n, hbn⟩ : ∃ n, n = bs.length := ⟨_, rfl⟩
  rw [← hbn] at c0 hn
  clear h
  go_enter Try.func15, Try.ntmps15
  go_wp2
  go_loopw [3, 11] (fun v3 v11 wr => ∃ i : Nat, i ≤ n ∧ v3 = .int .i64 (freeN (bs.take i)) ∧ v11 = .int .i64 (i : Int) ∧ Pl w wr g pb bs ∧ Below W.heap.size W wr)
    (fun _ v11 _ => n - (intOf v11).toNat)
  case atStart => exact ⟨0, Nat.zero_le _, rfl, rfl, P0.out, Below.refl _ _⟩
  case round =>
    obtain ⟨i, hi, rfl, rfl, hP, hB⟩ := hrel
    have P1 := hide hP
    have B1 := hide hB
    clear hP hB
    have F1 := hide (freeN_le bs i)
    by_cases hlt : i < n
    · obtain ⟨b, hb⟩ : ∃ b, bs[i]? = some b := ⟨_, List.getElem?_eq_getElem (by omega)⟩
      obtain ⟨x0, x1, x2, x3, x4, x5, x6, x7⟩ := P1.out.cells i b hb
      have N1 := hide (freeN_take bs i b hb)
      have p1 : ((i : Int) < (n : Int)) = True := eq_true (by omega)
      have p0 : (0 : Int) ≤ (i : Int) := by omega
      cases hb2 : b.2.2 with
      | true =>
        rw [hb2] at x7
        go_wp2
        have hN := N1.out
        rw [hb2, if_pos rfl, Int.add_zero] at hN
        refine ⟨⟨i + 1, by omega, by rw [hN], by simp, P1.out.below_then (by (repeat (first | (with_reducible assumption) | with_reducible exact be_refl _ | (with_reducible refine be_set ?_ (by dsimp only; omega)) | (with_reducible apply be_drew) | (with_reducible apply be_drewN) | (with_reducible refine be_alloc ?_ (by first | omega | (simp; omega) | simp)) | (with_reducible refine be_call (by with_reducible assumption) (by first | omega | (simp; omega) | simp) ?_)))), be_call (by (repeat (first | (with_reducible assumption) | with_reducible exact be_refl _ | (with_reducible refine be_set ?_ (by dsimp only; omega)) | (with_reducible apply be_drew) | (with_reducible apply be_drewN) | (with_reducible refine be_alloc ?_ (by first | omega | (simp; omega) | simp)) | (with_reducible refine be_call (by with_reducible assumption) (by first | omega | (simp; omega) | simp) ?_)))) B1.out.size B1.out⟩, ?_⟩
        simp only [intOf]; omega
      | false =>
        rw [hb2] at x7
        have hN := N1.out
        rw [hb2, if_neg (by decide)] at hN
        have hw : wrap64 (freeN (bs.take i) + 1) = freeN (bs.take i) + 1 := by have := F1.out; unfold wrap64; omega
        have HW := hide hw
        clear hw
        go_wp2
        refine ⟨⟨i + 1, by omega, by rw [hN, HW.out], by simp, P1.out.below_then (by (repeat (first | (with_reducible assumption) | with_reducible exact be_refl _ | (with_reducible refine be_set ?_ (by dsimp only; omega)) | (with_reducible apply be_drew) | (with_reducible apply be_drewN) | (with_reducible refine be_alloc ?_ (by first | omega | (simp; omega) | simp)) | (with_reducible refine be_call (by with_reducible assumption) (by first | omega | (simp; omega) | simp) ?_)))), be_call (by (repeat (first | (with_reducible assumption) | with_reducible exact be_refl _ | (with_reducible refine be_set ?_ (by dsimp only; omega)) | (with_reducible apply be_drew) | (with_reducible apply be_drewN) | (with_reducible refine be_alloc ?_ (by first | omega | (simp; omega) | simp)) | (with_reducible refine be_call (by with_reducible assumption) (by first | omega | (simp; omega) | simp) ?_)))) B1.out.size B1.out⟩, ?_⟩
        simp only [intOf]; omega
    · have p1 : ((i : Int) < (n : Int)) = False := eq_false (by omega)
      have hi2 : i = n := by omega
      subst hi2
      have ht : freeN (bs.take i) = freeN bs := by rw [hbn, List.take_length]
      go_wp2
      go_ret
      exact ⟨by rw [← ht]; rfl, P1.out, B1.out⟩
theorem Pl.alloc {w W : World} {g pb : Nat} {bs : List (Int × Int × Bool)} (h : Pl w W g pb bs) (o : Obj) : Pl w (W.alloc o) g pb bs := h.below_then (be_alloc (be_refl _) (Nat.le_refl _))
set_option maxHeartbeats 8000000 in
set_option maxRecDepth 100000 in
theorem read_no (i gen : Int) (w W : World) (g pb : Nat) (bs : List (Int × Int × Bool)) (h : Pl w W g pb bs)
    (hc : (i < 0 ∨ (bs.length : Int) ≤ i) ∨ ∃ b, 0 ≤ i ∧ bs[i.toNat]? = some b ∧ (b.2.2 = false ∨ b.2.1 ≠ gen)) :
    Calls Try.prog 11 #[.pointer (some ⟨g, 0, none⟩), .int .i64 i, .int .i64 gen] W fun e W' => e = .returned (.tuple #[fr 0, .bool false]) ∧ Pl w W' g pb bs ∧ Below W.heap.size W W' := by
  have hA : ∀ o, Pl w (W.alloc o) g pb bs := fun o => h.alloc o
  have H : ∀ o, Calls Try.prog 22 #[.pointer (some ⟨g, 0, none⟩), .int .i64 i] (W.alloc o) fun e W' => e = .returned (.bool (decide (0 ≤ i) && decide (i < bs.length))) ∧ W' = W.alloc o := fun o => has_calls i w _ g pb bs (hA o)
  have G1 := bs_lt h.pool
  have G2 := bs_lt h.rows
  have HP := hide h
  unfold fr
  rcases hc with h1 | ⟨b, h0, hb, hb2⟩
  · have hd : (decide (0 ≤ i) && decide (i < bs.length)) = false := by simp; omega
    rw [hd] at H
    have H := hide H
    clear hd h hA
    go_enter Try.func11, Try.ntmps11
    go_wp2_with (go_at_call 22; with_reducible refine (H.out _).mono ?_; rintro e v ⟨rfl, hv⟩; subst v)
    refine bodyPost_ret (results_ct rfl _ _ W.heap.size 26 #[.int .i64 0, .int .i64 0, .slice none 0 0, .int .i64 0, .int .i64 0, .bool false] (0, 0) _ rfl ?_ Try.underlying26 rfl (by kernel_rfl)) rfl ?_
    · (apply bs_eq; (case h => (repeat (first | (with_reducible assumption) | (with_reducible apply bs_same) | (with_reducible apply bs_far; case hp => (dsimp only; omega)) | (with_reducible apply bs_drew) | (with_reducible apply bs_drewN) | (with_reducible apply bs_new; (first | (with_reducible rfl) | (simp; done))) | (with_reducible apply bs_alloc) | (with_reducible apply bs_below; (case hb => with_reducible assumption); (case hB => first | omega | (simp; omega) | (simp; done)))))); (case e => rfl))
    · exact ⟨rfl, HP.out.below_then (by (repeat (first | (with_reducible assumption) | with_reducible exact be_refl _ | (with_reducible refine be_set ?_ (by dsimp only; omega)) | (with_reducible apply be_drew) | (with_reducible apply be_drewN) | (with_reducible refine be_alloc ?_ (by first | omega | (simp; omega) | simp)) | (with_reducible refine be_call (by with_reducible assumption) (by first | omega | (simp; omega) | simp) ?_)))), by (repeat (first | (with_reducible assumption) | with_reducible exact be_refl _ | (with_reducible refine be_set ?_ (by dsimp only; omega)) | (with_reducible apply be_drew) | (with_reducible apply be_drewN) | (with_reducible refine be_alloc ?_ (by first | omega | (simp; omega) | simp)) | (with_reducible refine be_call (by with_reducible assumption) (by first | omega | (simp; omega) | simp) ?_)))⟩
  · have hl : i.toNat < bs.length := (List.getElem?_eq_some_iff.1 hb).1
    have hd : (decide (0 ≤ i) && decide (i < bs.length)) = true := by simp; omega
    rw [hd] at H
    have H := hide H
    have c0 := h.cell0
    obtain ⟨x0, x1, x2, x3, x4, x5, x6, x7⟩ := h.cells i.toNat b hb
    have h1 : i < (bs.length : Int) := by omega
    clear hd h hA hb
    have hcase : b.2.2 = false ∨ (b.2.2 = true ∧ b.2.1 ≠ gen) := by
      cases hq : b.2.2
      · exact .inl rfl
      · exact .inr ⟨rfl, hb2.resolve_left (by rw [hq]; decide)⟩
    clear hb2
    rcases hcase with q | ⟨q, q2⟩
    all_goals (
      rw [q] at x7
      go_enter Try.func11, Try.ntmps11
      go_wp2_with (go_at_call 22; with_reducible refine (H.out _).mono ?_; rintro e v ⟨rfl, hv⟩; subst v)
      refine bodyPost_ret (results_ct rfl _ _ W.heap.size 26 #[.int .i64 0, .int .i64 0, .slice none 0 0, .int .i64 0, .int .i64 0, .bool false] (0, 0) _ rfl ?_ Try.underlying26 rfl (by kernel_rfl)) rfl ?_
      · (apply bs_eq; (case h => (repeat (first | (with_reducible assumption) | (with_reducible apply bs_same) | (with_reducible apply bs_far; case hp => (dsimp only; omega)) | (with_reducible apply bs_drew) | (with_reducible apply bs_drewN) | (with_reducible apply bs_new; (first | (with_reducible rfl) | (simp; done))) | (with_reducible apply bs_alloc) | (with_reducible apply bs_below; (case hb => with_reducible assumption); (case hB => first | omega | (simp; omega) | (simp; done)))))); (case e => rfl))
      · exact ⟨rfl, HP.out.below_then (by (repeat (first | (with_reducible assumption) | with_reducible exact be_refl _ | (with_reducible refine be_set ?_ (by dsimp only; omega)) | (with_reducible apply be_drew) | (with_reducible apply be_drewN) | (with_reducible refine be_alloc ?_ (by first | omega | (simp; omega) | simp)) | (with_reducible refine be_call (by with_reducible assumption) (by first | omega | (simp; omega) | simp) ?_)))), by (repeat (first | (with_reducible assumption) | with_reducible exact be_refl _ | (with_reducible refine be_set ?_ (by dsimp only; omega)) | (with_reducible apply be_drew) | (with_reducible apply be_drewN) | (with_reducible refine be_alloc ?_ (by first | omega | (simp; omega) | simp)) | (with_reducible refine be_call (by with_reducible assumption) (by first | omega | (simp; omega) | simp) ?_)))⟩)
set_option maxHeartbeats 8000000 in
set_option maxRecDepth 100000 in
theorem read_yes (i gen : Int) (b : Int × Int × Bool) (w W : World) (g pb : Nat) (bs : List (Int × Int × Bool)) (h : Pl w W g pb bs) (h0 : 0 ≤ i) (hb : bs[i.toNat]? = some b) (q : b.2.2 = true) (q2 : b.2.1 = gen) :
    Calls Try.prog 11 #[.pointer (some ⟨g, 0, none⟩), .int .i64 i, .int .i64 gen] W fun e W' => e = .returned (.tuple #[fr b.1, .bool true]) ∧ Pl w W' g pb bs ∧ Below W.heap.size W W' := by
  have H : ∀ o, Calls Try.prog 22 #[.pointer (some ⟨g, 0, none⟩), .int .i64 i] (W.alloc o) fun e W' => e = .returned (.bool (decide (0 ≤ i) && decide (i < bs.length))) ∧ W' = W.alloc o := fun o => has_calls i w _ g pb bs (h.alloc o)
  have G1 := bs_lt h.pool
  have G2 := bs_lt h.rows
  have HP := hide h
  have hl : i.toNat < bs.length := (List.getElem?_eq_some_iff.1 hb).1
  have hd : (decide (0 ≤ i) && decide (i < bs.length)) = true := by simp; omega
  rw [hd] at H
  have H := hide H
  have c0 := h.cell0
  obtain ⟨x0, x1, x2, x3, x4, x5, x6, x7⟩ := h.cells i.toNat b hb
  have h1 : i < (bs.length : Int) := by omega
  have hS := hide (still b.1)
  clear hd h hb
  rw [q] at x7
  subst q2
  generalize b.2.1 = gen at *
  generalize b.1 = a at *
  unfold fr at *
  go_enter Try.func11, Try.ntmps11
  go_wp2_with (first
    | (go_at_call 22; with_reducible refine (H.out _).mono ?_; rintro e v ⟨rfl, hv⟩; subst v)
    | (go_at_call 21; with_reducible refine (hS.out _).mono ?_; rintro e v1 ⟨rfl, hb1⟩; obtain ⟨hc1, hf1⟩ := be_known hb1; have y1 := hb1.size; (try simp only [World.size_alloc] at y1)))
  refine bodyPost_ret (results_ct rfl _ _ W.heap.size 26 #[.int .i64 a, .int .i64 0, .slice none 0 0, .int .i64 0, .int .i64 0, .bool false] (0, 0) _ rfl ?_ Try.underlying26 rfl (by kernel_rfl)) rfl ?_
  · (apply bs_eq; (case h => (repeat (first | (with_reducible assumption) | (with_reducible apply bs_same) | (with_reducible apply bs_far; case hp => (dsimp only; omega)) | (with_reducible apply bs_drew) | (with_reducible apply bs_drewN) | (with_reducible apply bs_new; (first | (with_reducible rfl) | (simp; done))) | (with_reducible apply bs_alloc) | (with_reducible apply bs_below; (case hb => with_reducible assumption); (case hB => first | omega | (simp; omega) | (simp; done)))))); (case e => rfl))
  · exact ⟨rfl, HP.out.below_then (by (repeat (first | (with_reducible assumption) | with_reducible exact be_refl _ | (with_reducible refine be_set ?_ (by dsimp only; omega)) | (with_reducible apply be_drew) | (with_reducible apply be_drewN) | (with_reducible refine be_alloc ?_ (by first | omega | (simp; omega) | simp)) | (with_reducible refine be_call (by with_reducible assumption) (by first | omega | (simp; omega) | simp) ?_)))), by (repeat (first | (with_reducible assumption) | with_reducible exact be_refl _ | (with_reducible refine be_set ?_ (by dsimp only; omega)) | (with_reducible apply be_drew) | (with_reducible apply be_drewN) | (with_reducible refine be_alloc ?_ (by first | omega | (simp; omega) | simp)) | (with_reducible refine be_call (by with_reducible assumption) (by first | omega | (simp; omega) | simp) ?_)))⟩
theorem Pl.drew {w W : World} {g pb : Nat} {bs : List (Int × Int × Bool)} (h : Pl w W g pb bs) : Pl w W.drew g pb bs := ⟨h.pool, h.rows, h.ne, h.geg, h.gep, be_drew h.below⟩
theorem Pl.size {w W : World} {g pb : Nat} {bs : List (Int × Int × Bool)} (h : Pl w W g pb bs) : w.heap.size ≤ W.heap.size := h.below.size
/-- What a store of eight cells leaves. -/
theorem Pl.store {w W : World} {g pb : Nat} {bs : List (Int × Int × Bool)} (h : Pl w W g pb bs) (i : Nat) (a n : Int) (t : Bool) (hi : i < bs.length) :
    Pl w ((((((((W.setCell ⟨pb, i * 8, none⟩ (.int .i64 a)).setCell ⟨pb, i * 8 + 1, none⟩ (.int .i64 0)).setCell ⟨pb, i * 8 + 2, none⟩ (.slice none 0 0)).setCell ⟨pb, i * 8 + 3, none⟩ (.int .i64 0)).setCell ⟨pb, i * 8 + 4, none⟩ (.int .i64 0)).setCell ⟨pb, i * 8 + 5, none⟩ (.bool false)).setCell ⟨pb, i * 8 + 6, none⟩ (.int .i64 n)).setCell ⟨pb, i * 8 + 7, none⟩ (.bool t)) g pb (bs.set i (a, n, t)) := by
  have hne := h.ne
  have hg := h.gep
  refine ⟨?_, ?_, h.ne, h.geg, h.gep, ?_⟩
  · rw [List.length_set]
    repeat (refine bs_far ?_ (by simpa using hne))
    exact h.pool
  · have e := flat_set bs i (i * 8) a n t hi (by omega)
    rw [← e]
    have hr := h.rows
    have s0 := bs_same (i := i * 8) (v := .int .i64 a) hr
    have s1 := bs_same (i := i * 8 + 1) (v := .int .i64 0) s0
    have s2 := bs_same (i := i * 8 + 2) (v := .slice none 0 0) s1
    have s3 := bs_same (i := i * 8 + 3) (v := .int .i64 0) s2
    have s4 := bs_same (i := i * 8 + 4) (v := .int .i64 0) s3
    have s5 := bs_same (i := i * 8 + 5) (v := .bool false) s4
    have s6 := bs_same (i := i * 8 + 6) (v := .int .i64 n) s5
    have s7 := bs_same (i := i * 8 + 7) (v := .bool t) s6
    simp only [List.setIfInBounds_toArray] at s7
    exact s7
  · repeat (refine be_set ?_ hg)
    exact h.below
theorem Pl.there {w W : World} {g pb : Nat} {bs : List (Int × Int × Bool)} (h : Pl w W g pb bs) (i : Nat) (hi : i < bs.length) : W.there pb (i * 8) 8 := by
  intro j hj
  obtain ⟨b, hb⟩ : ∃ b, bs[i]? = some b := ⟨_, List.getElem?_eq_getElem hi⟩
  refine ⟨?_, bs_frozen h.rows _⟩
  rw [h.cell i j (i * 8 + j) b hb hj (by omega)]
  have : j < (bc b).length := hj
  rw [List.getElem?_eq_getElem this]
  rfl
theorem Pl.stored {w W : World} {g pb : Nat} {bs : List (Int × Int × Bool)} (h : Pl w W g pb bs) (i : Nat) (a n : Int) (t : Bool) (hi : i < bs.length) :
    Pl w (W.setCells pb (i * 8) [.int .i64 a, .int .i64 0, .slice none 0 0, .int .i64 0, .int .i64 0, .bool false, .int .i64 n, .bool t]) g pb (bs.set i (a, n, t)) := h.store i a n t hi
/-- What stays: every block that was there, but the buffers' own. -/
def Fr (pb : Nat) (W W' : World) : Prop := ∀ k, k < W.heap.size → k ≠ pb → W'.heap[k]? = W.heap[k]?
theorem Fr.of_below {pb : Nat} {W W' : World} (h : Below W.heap.size W W') : Fr pb W W' := fun k hk _ => h.block k hk
theorem far_setCells (b : Nat) (vs : List Value) : ∀ (o : Nat) (w : World) (k : Nat), k ≠ b → (w.setCells b o vs).heap[k]? = w.heap[k]? := by
  induction vs with
  | nil => intro o w k hk; rfl
  | cons v vs ih => intro o w k hk; exact (ih (o + 1) (w.setCell ⟨b, o, none⟩ v) k hk).trans (Below.heap_setCell w ⟨b, o, none⟩ v k hk)
end Go.Proofs.Ytlkejpdclnbcoaa.PoolBase

