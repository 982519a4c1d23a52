/- Pools: what the functions of the package pool do with frames of any rows: contracts, for every pool, without a condition of their own. -/
import Derived.Deep.QuietTactic
import Derived.Test.YtlkejpdclnbcoaaPoolGive
import Derived.Test.YtlkejpdclnbcoaaPoolNew
import Derived.Test.YtlkejpdclnbcoaaInn
import Derived.Test.YtlkejpdclnbcoaaSplit
namespace Go.Proofs.Ytlkejpdclnbcoaa.PoolV
open Go Go.RowKit Go.Proofs.YtlkejpdclnbcoaaKit Go.Proofs.Ytlkejpdclnbcoaa.Mem Go.Proofs.YtlkejpdclnbcoaaW.PrintWords Go.Proofs.YtlkejpdclnbcoaaW.PrintLast Go.Proofs.Ytlkejpdclnbcoaa.Inn Go.Proofs.Ytlkejpdclnbcoaa.Split
open Go.Proofs.Ytlkejpdclnbcoaa.PoolBase (Fr far_setCells)
attribute [local go_sem] cell_alloc_some cell_alloc2_some cell_alloc3_some cell_alloc4_some
set_option linter.unusedVariables false
set_option linter.unusedSimpArgs false
/-- A buffer: its frame's width and rows, its generation, whether it is taken. -/
structure Bf where
  w : Int
  q : Option Addr
  n : Nat
  c : Nat
  rs : List R
  gen : Int
  t : Bool
abbrev Bf.v (b : Bf) : Value := .slice b.q b.n b.c
def frV (a : Int) (v : Value) : Value := .agg #[.int .i64 a, .int .i64 0, v, .int .i64 0, .int .i64 0, .bool false]
def bv (b : Bf) : List Value := [.int .i64 b.w, .int .i64 0, .slice b.q b.n b.c, .int .i64 0, .int .i64 0, .bool false, .int .i64 b.gen, .bool b.t]
def fl (bs : List Bf) : List Value := bs.flatMap bv
theorem fl_cons (b : Bf) (bs : List Bf) : fl (b :: bs) = bv b ++ fl bs := by simp [fl]
theorem fl_len (bs : List Bf) : (fl bs).length = 8 * bs.length := by
  induction bs with
  | nil => rfl
  | cons b bs ih => rw [fl_cons, List.length_append, ih]; simp [bv]; omega
theorem fl_get (bs : List Bf) (i j k : Nat) (b : Bf) (hb : bs[i]? = some b) (hj : j < 8) (hk : k = 8 * i + j) : (fl bs)[k]? = (bv b)[j]? := by
  subst hk
  induction bs generalizing i with
  | nil => simp at hb
  | cons b0 bs ih =>
    rw [fl_cons]
    cases i with
    | zero =>
      simp at hb; subst hb
      rw [List.getElem?_append_left (by simp [bv]; omega)]
      simp
    | succ i =>
      simp at hb
      have hl : (bv b0).length = 8 := rfl
      rw [List.getElem?_append_right (by omega), hl, show 8 * (i + 1) + j - 8 = 8 * i + j by omega]
      exact ih i hb
theorem fl_set (bs : List Bf) (i k : Nat) (b : Bf) (hi : i < bs.length) (hk : k = 8 * i) :
    (((((((((fl bs).set k (.int .i64 b.w)).set (k + 1) (.int .i64 0)).set (k + 2) b.v).set (k + 3) (.int .i64 0)).set (k + 4) (.int .i64 0)).set (k + 5) (.bool false)).set (k + 6) (.int .i64 b.gen)).set (k + 7) (.bool b.t)) = fl (bs.set i b) := by
  subst hk
  induction bs generalizing i with
  | nil => simp at hi
  | cons b0 bs ih =>
    cases i with
    | zero =>
      rw [List.set_cons_zero, fl_cons, fl_cons]
      simp [bv]
    | succ i =>
      rw [List.set_cons_succ, fl_cons, fl_cons]
      have hl : (bv b0).length = 8 := rfl
      have h := ih i (by simpa using hi)
      have ha : ∀ (l : List Value) (m : Nat) (v : Value), (bv b0 ++ l).set (8 * (i + 1) + m) v = bv b0 ++ l.set (8 * i + m) v := fun l m v => by
        rw [List.set_append_right _ _ (by omega), hl, show 8 * (i + 1) + m - 8 = 8 * i + m by omega]
      have h0 : ∀ (l : List Value) (v : Value), (bv b0 ++ l).set (8 * (i + 1)) v = bv b0 ++ l.set (8 * i) v := fun l v => ha l 0 v
      rw [h0, ha, ha, ha, ha, ha, ha, ha, h]
/-- A pool of the buffers bs; w: the world that the law began in. -/
structure Pv (w W : World) (g pb : Nat) (bs : List Bf) : Prop where
  pool : W.heap[g]? = some (.cells #[.slice (some ⟨pb, 0, none⟩) bs.length bs.length] 62 (0, 0))
  rows : W.heap[pb]? = some (.cells (fl bs).toArray 78 (0, 0))
  ne : g ≠ pb
  geg : w.heap.size ≤ g
  gep : w.heap.size ≤ pb
  below : Below w.heap.size w W
  cont : ∀ b ∈ bs, RowsAt W 0 b.v b.rs
theorem fl_of (bs : List (Int × Int × Bool)) : PoolBase.flat bs = fl (bs.map fun b => ⟨b.1, none, 0, 0, [], b.2.1, b.2.2⟩) := by
  induction bs with
  | nil => rfl
  | cons b bs ih => rw [PoolBase.flat_cons, List.map_cons, fl_cons, ih]; rfl
theorem Pv.of {w W : World} {g pb : Nat} {bs : List (Int × Int × Bool)} (h : PoolBase.Pl w W g pb bs) : Pv w W g pb (bs.map fun b => ⟨b.1, none, 0, 0, [], b.2.1, b.2.2⟩) :=
  ⟨by rw [List.length_map]; exact h.pool, by rw [← fl_of]; exact h.rows, h.ne, h.geg, h.gep, h.below, fun b hb => by
    obtain ⟨c, _, rfl⟩ := List.mem_map.1 hb
    exact RowsAt.nil _ _⟩
theorem Pv.below_then {w W W' : World} {g pb : Nat} {bs : List Bf} (h : Pv w W g pb bs) (hb : Below W.heap.size W W') : Pv w W' g pb bs :=
  ⟨bs_below hb (bs_lt h.pool) h.pool, bs_below hb (bs_lt h.rows) h.rows, h.ne, h.geg, h.gep, be_call hb h.below.size h.below, fun b hm => (h.cont b hm).below hb⟩
theorem Pv.alloc {w W : World} {g pb : Nat} {bs : List Bf} (h : Pv w W g pb bs) (o : Obj) : Pv w (W.alloc o) g pb bs := h.below_then (be_alloc (be_refl _) (Nat.le_refl _))
theorem Pv.cell0 {w W : World} {g pb : Nat} {bs : List Bf} (h : Pv w W g pb bs) : W.cell? ⟨g, 0, none⟩ = some (.slice (some ⟨pb, 0, none⟩) bs.length bs.length) := (bs_cell h.pool 0).trans rfl
theorem Pv.cell {w W : World} {g pb : Nat} {bs : List Bf} (h : Pv w W g pb bs) (i j k : Nat) (b : Bf) (hb : bs[i]? = some b) (hj : j < 8) (hk : k = 8 * i + j) : W.cell? ⟨pb, k, none⟩ = (bv b)[j]? := by
  rw [bs_cell h.rows k, List.getElem?_toArray]
  exact fl_get bs i j k b hb hj hk
theorem Pv.cells {w W : World} {g pb : Nat} {bs : List Bf} (h : Pv w W g pb bs) (i : Nat) (b : Bf) (hb : bs[i]? = some b) :
    W.cell? ⟨pb, i * 8, none⟩ = some (.int .i64 b.w) ∧ W.cell? ⟨pb, i * 8 + 1, none⟩ = some (.int .i64 0) ∧ W.cell? ⟨pb, i * 8 + 2, none⟩ = some (.slice b.q b.n b.c) ∧ W.cell? ⟨pb, i * 8 + 3, none⟩ = some (.int .i64 0) ∧ W.cell? ⟨pb, i * 8 + 4, none⟩ = some (.int .i64 0) ∧ W.cell? ⟨pb, i * 8 + 5, none⟩ = some (.bool false) ∧ W.cell? ⟨pb, i * 8 + 6, none⟩ = some (.int .i64 b.gen) ∧ W.cell? ⟨pb, i * 8 + 7, none⟩ = some (.bool b.t) :=
  ⟨(h.cell i 0 _ b hb (by omega) (by omega)).trans rfl, (h.cell i 1 _ b hb (by omega) (by omega)).trans rfl, (h.cell i 2 _ b hb (by omega) (by omega)).trans rfl, (h.cell i 3 _ b hb (by omega) (by omega)).trans rfl, (h.cell i 4 _ b hb (by omega) (by omega)).trans rfl, (h.cell i 5 _ b hb (by omega) (by omega)).trans rfl, (h.cell i 6 _ b hb (by omega) (by omega)).trans rfl, (h.cell i 7 _ b hb (by omega) (by omega)).trans rfl⟩
theorem Pv.there {w W : World} {g pb : Nat} {bs : List Bf} (h : Pv w W g pb bs) (i : Nat) (hi : i < bs.length) : W.there pb (i * 8) 8 := by
  intro j hj
  obtain ⟨b, hb⟩ : ∃ b, bs[i]? = some b := ⟨_, List.getElem?_eq_getElem hi⟩
  refine ⟨?_, bs_frozen h.rows _⟩
  rw [h.cell i j (i * 8 + j) b hb hj (by omega)]
  have : j < (bv b).length := hj
  rw [List.getElem?_eq_getElem this]
  rfl
/-- Rows stay where a block of another kind turns. -/
theorem RowsAt.fr {W W' : World} {pb : Nat} {v : Value} {rs : List R} {cur : Array Value} (h : RowsAt W 0 v rs) (hf : Fr pb W W') (hp : W.heap[pb]? = some (.cells cur 78 (0, 0))) : RowsAt W' 0 v rs :=
  h.keep fun b _ hlt ⟨c, hc⟩ => hf b hlt fun e => by
    subst e
    rcases hc with hc | hc <;> rw [hp] at hc <;> injection hc with e1 <;> injection e1 with _ e2 <;> revert e2 <;> decide
theorem Fr.setCells {pb : Nat} {W : World} (o : Nat) (vs : List Value) : Fr pb W (W.setCells pb o vs) := fun k _ hne => far_setCells pb vs o W k hne
theorem Pv.stored {w W : World} {g pb : Nat} {bs : List Bf} (h : Pv w W g pb bs) (i : Nat) (b : Bf) (hi : i < bs.length) (hb : RowsAt W 0 b.v b.rs) :
    Pv w (W.setCells pb (i * 8) (bv b)) g pb (bs.set i b) := by
  have hne := h.ne
  have hg := h.gep
  have hf : Fr pb W (W.setCells pb (i * 8) (bv b)) := Fr.setCells _ _
  refine ⟨?_, ?_, h.ne, h.geg, h.gep, ?_, fun c hc => ?_⟩
  · rw [List.length_set]
    exact (hf g (bs_lt h.pool) hne).trans h.pool
  · have e := fl_set bs i (i * 8) b hi (by omega)
    rw [← e]
    have hr := h.rows
    have s0 := bs_same (i := i * 8) (v := .int .i64 b.w) hr
    have s1 := bs_same (i := i * 8 + 1) (v := .int .i64 0) s0
    have s2 := bs_same (i := i * 8 + 2) (v := b.v) s1
    have s3 := bs_same (i := i * 8 + 3) (v := .int .i64 0) s2
    have s4 := bs_same (i := i * 8 + 4) (v := .int .i64 0) s3
    have s5 := bs_same (i := i * 8 + 5) (v := .bool false) s4
    have s6 := bs_same (i := i * 8 + 6) (v := .int .i64 b.gen) s5
    have s7 := bs_same (i := i * 8 + 7) (v := .bool b.t) s6
    simp only [List.setIfInBounds_toArray] at s7
    exact s7
  · change Below w.heap.size w ((((((((W.setCell ⟨pb, i * 8, none⟩ (.int .i64 b.w)).setCell ⟨pb, i * 8 + 1, none⟩ (.int .i64 0)).setCell ⟨pb, i * 8 + 2, none⟩ b.v).setCell ⟨pb, i * 8 + 3, none⟩ (.int .i64 0)).setCell ⟨pb, i * 8 + 4, none⟩ (.int .i64 0)).setCell ⟨pb, i * 8 + 5, none⟩ (.bool false)).setCell ⟨pb, i * 8 + 6, none⟩ (.int .i64 b.gen)).setCell ⟨pb, i * 8 + 7, none⟩ (.bool b.t))
    repeat (refine be_set ?_ hg)
    exact h.below
  · rcases List.mem_or_eq_of_mem_set hc with hc | rfl
    · exact RowsAt.fr (h.cont c hc) hf h.rows
    · exact RowsAt.fr hb hf h.rows
theorem has_v (i : Int) (w W : World) (g pb : Nat) (bs : List Bf) (h : Pv w W g pb bs) :
    Calls Try.prog 22 #[.pointer (some ⟨g, 0, none⟩), .int .i64 i] W fun e W' => e = .returned (.bool (decide (0 ≤ i) && decide (i < bs.length))) ∧ W' = W := by
  have c0 := h.cell0
  generalize bs.length = n at *
  clear h
  go_enter Try.func22, Try.ntmps22
  go_wp2
  all_goals go_ret
  all_goals (refine ⟨?_, rfl⟩; first | (simp [*]; done) | (simp [*]; omega))
theorem gen_v (i : Int) (v : Int) (w W : World) (g pb : Nat) (bs : List Bf) (h : Pv w W g pb bs) (hv : (i < 0 ∨ (bs.length : Int) ≤ i) ∧ v = 0 ∨ ∃ b, 0 ≤ i ∧ bs[i.toNat]? = some b ∧ v = b.gen) :
    Calls Try.prog 14 #[.pointer (some ⟨g, 0, none⟩), .int .i64 i] W fun e W' => e = .returned (.int .i64 v) ∧ W' = W := by
  have c0 := h.cell0
  have H := hide (has_v i w W g pb bs h)
  rcases hv with ⟨h1, rfl⟩ | ⟨b, h0, hb, rfl⟩
  · have hd : (decide (0 ≤ i) && decide (i < bs.length)) = false := by simp; omega
    rw [hd] at H
    clear hd h
    go_enter Try.func14, Try.ntmps14
    go_wp2_with (go_at_call 22; with_reducible refine H.out.mono ?_; rintro e v ⟨rfl, hv⟩; subst v)
    go_ret
    exact ⟨rfl, rfl⟩
  · have hl : i.toNat < bs.length := (List.getElem?_eq_some_iff.1 hb).1
    have hd : (decide (0 ≤ i) && decide (i < bs.length)) = true := by simp; omega
    rw [hd] at H
    obtain ⟨_, _, _, _, _, _, cg, _⟩ := h.cells i.toNat b hb
    have h1 : i < (bs.length : Int) := by omega
    clear hd h hb
    go_enter Try.func14, Try.ntmps14
    go_wp2_with (go_at_call 22; with_reducible refine H.out.mono ?_; rintro e v ⟨rfl, hv⟩; subst v)
    go_ret
    exact ⟨rfl, rfl⟩
def freeN (bs : List Bf) : Int := (((bs.filter fun b => !b.t).length : Nat) : Int)
theorem freeN_take (bs : List Bf) (i : Nat) (b : Bf) (hb : bs[i]? = some b) : freeN (bs.take (i + 1)) = freeN (bs.take i) + (if b.t = true then 0 else 1) := by
  unfold freeN
  rw [List.take_add_one, hb, Option.toList_some, List.filter_append, List.length_append]
  cases hb2 : b.t <;> simp [hb2]
theorem freeN_le (bs : List Bf) (i : Nat) : 0 ≤ freeN (bs.take i) ∧ freeN (bs.take i) ≤ i := by
  unfold freeN
  have h1 := List.length_filter_le (fun b : Bf => !b.t) (bs.take i)
  have h2 := List.length_take_le i bs
  omega
set_option maxHeartbeats 8000000 in
set_option maxRecDepth 100000 in
theorem free_v (w W : World) (g pb : Nat) (bs : List Bf) (h : Pv w W g pb bs) (hn : bs.length ≤ 1000) :
    Calls Try.prog 15 #[.pointer (some ⟨g, 0, none⟩)] W fun e W' => e = .returned (.int .i64 (freeN bs)) ∧ Pv w W' g pb bs ∧ Below W.heap.size W W' := by
  have c0 := h.cell0
  have P0 := hide h
  obtain ⟨n, hbn⟩ : ∃ n, n = bs.length := ⟨_, rfl⟩
  rw [← hbn] at c0 hn
  clear h
  go_enter Try.func15, Try.ntmps15
  go_wp2
  go_loopw [3, 11] (fun v3 v11 wr => ∃ i : Nat, i ≤ n ∧ v3 = .int .i64 (freeN (bs.take i)) ∧ v11 = .int .i64 (i : Int) ∧ Pv w wr g pb bs ∧ Below W.heap.size W wr)
    (fun _ v11 _ => n - (intOf v11).toNat)
  case atStart => exact ⟨0, Nat.zero_le _, rfl, rfl, P0.out, Below.refl _ _⟩
  case round =>
    obtain ⟨i, hi, rfl, rfl, hP, hB⟩ := hrel
    have P1 := hide hP
    have B1 := hide hB
    clear hP hB
    have F1 := hide (freeN_le bs i)
    by_cases hlt : i < n
    · obtain ⟨b, hb⟩ : ∃ b, bs[i]? = some b := ⟨_, List.getElem?_eq_getElem (by omega)⟩
      obtain ⟨x0, x1, x2, x3, x4, x5, x6, x7⟩ := P1.out.cells i b hb
      have N1 := hide (freeN_take bs i b hb)
      have p1 : ((i : Int) < (n : Int)) = True := eq_true (by omega)
      have p0 : (0 : Int) ≤ (i : Int) := by omega
      cases hb2 : b.t with
      | true =>
        rw [hb2] at x7
        go_wp2
        have hN := N1.out
        rw [hb2, if_pos rfl, Int.add_zero] at hN
        refine ⟨⟨i + 1, by omega, by rw [hN], by simp, P1.out.below_then (by (repeat (first | (with_reducible assumption) | with_reducible exact be_refl _ | (with_reducible refine be_set ?_ (by dsimp only; omega)) | (with_reducible apply be_drew) | (with_reducible apply be_drewN) | (with_reducible refine be_alloc ?_ (by first | omega | (simp; omega) | simp)) | (with_reducible refine be_call (by with_reducible assumption) (by first | omega | (simp; omega) | simp) ?_)))), be_call (by (repeat (first | (with_reducible assumption) | with_reducible exact be_refl _ | (with_reducible refine be_set ?_ (by dsimp only; omega)) | (with_reducible apply be_drew) | (with_reducible apply be_drewN) | (with_reducible refine be_alloc ?_ (by first | omega | (simp; omega) | simp)) | (with_reducible refine be_call (by with_reducible assumption) (by first | omega | (simp; omega) | simp) ?_)))) B1.out.size B1.out⟩, ?_⟩
        simp only [intOf]; omega
      | false =>
        rw [hb2] at x7
        have hN := N1.out
        rw [hb2, if_neg (by decide)] at hN
        have hw : wrap64 (freeN (bs.take i) + 1) = freeN (bs.take i) + 1 := by have := F1.out; unfold wrap64; omega
        have HW := hide hw
        clear hw
        go_wp2
        refine ⟨⟨i + 1, by omega, by rw [hN, HW.out], by simp, P1.out.below_then (by (repeat (first | (with_reducible assumption) | with_reducible exact be_refl _ | (with_reducible refine be_set ?_ (by dsimp only; omega)) | (with_reducible apply be_drew) | (with_reducible apply be_drewN) | (with_reducible refine be_alloc ?_ (by first | omega | (simp; omega) | simp)) | (with_reducible refine be_call (by with_reducible assumption) (by first | omega | (simp; omega) | simp) ?_)))), be_call (by (repeat (first | (with_reducible assumption) | with_reducible exact be_refl _ | (with_reducible refine be_set ?_ (by dsimp only; omega)) | (with_reducible apply be_drew) | (with_reducible apply be_drewN) | (with_reducible refine be_alloc ?_ (by first | omega | (simp; omega) | simp)) | (with_reducible refine be_call (by with_reducible assumption) (by first | omega | (simp; omega) | simp) ?_)))) B1.out.size B1.out⟩, ?_⟩
        simp only [intOf]; omega
    · have p1 : ((i : Int) < (n : Int)) = False := eq_false (by omega)
      have hi2 : i = n := by omega
      subst hi2
      have ht : freeN (bs.take i) = freeN bs := by rw [hbn, List.take_length]
      go_wp2
      go_ret
      exact ⟨by rw [← ht]; rfl, P1.out, B1.out⟩
end Go.Proofs.Ytlkejpdclnbcoaa.PoolV


