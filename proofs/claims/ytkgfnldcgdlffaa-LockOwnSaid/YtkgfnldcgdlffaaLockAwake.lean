/- Locks: two rows of numbers compared; what the document fixes (awake): contracts, without a condition of their own. -/
import Derived.Test.YtkgfnldcgdlffaaLockBase
namespace Go.Proofs.Ytkgfnldcgdlffaa.LockAwake
open Go Go.RowKit Go.Proofs.YtkgfnldcgdlffaaKit Go.Proofs.Ytkgfnldcgdlffaa.Mem Go.Proofs.Ytkgfnldcgdlffaa.LockKeys Go.Proofs.Ytkgfnldcgdlffaa.LockBase
set_option linter.unusedVariables false
set_option linter.unusedSimpArgs false
set_option maxRecDepth 100000 in
theorem same_calls (W : World) (xs : List Int) (oa ob : Option Addr) (ca cb : Nat) (hl : xs.length ≤ 1000000000) (ha : Rd W 0 oa (xs.map (.int .i64))) (hb : Rd W 0 ob (xs.map (.int .i64))) :
    Calls Try.prog 18 #[.slice oa xs.length ca, .slice ob xs.length cb] W fun e W' => e = .returned (.bool true) ∧ Below W.heap.size W W' := by
  have HA := hide ha
  have HB := hide hb
  have HL := hide hl
  clear ha hb hl
  go_enter Try.func18, Try.ntmps18
  go_wp2
  go_loopw [5] (fun v5 wr => ∃ i : Int, (0 ≤ i ∧ i ≤ xs.length) ∧ v5 = .int .i64 i ∧ Below W.heap.size W wr) (fun v5 _ => (xs.length - intOf v5).toNat)
  case atStart => exact ⟨0, ⟨by omega, by omega⟩, rfl, Below.refl _ _⟩
  case round =>
    obtain ⟨i, ⟨i0, i1⟩, rfl, hB⟩ := hrel
    have BB := hide hB
    clear hB
    by_cases q : i < (xs.length : Int)
    · obtain ⟨k, rfl⟩ : ∃ k : Nat, i = k := ⟨i.toNat, by omega⟩
      have hk : k < xs.length := by omega
      obtain ⟨x, hx⟩ : ∃ x, xs[k]? = some x := ⟨_, List.getElem?_eq_getElem hk⟩
      have hv : (xs.map (Value.int .i64))[k]? = some (.int .i64 x) := by rw [List.getElem?_map, hx]; rfl
      obtain ⟨a, rfl, _, hca⟩ := HA.out.at_ k _ hv
      obtain ⟨b, rfl, _, hcb⟩ := HB.out.at_ k _ hv
      replace hca := (BB.out.cell (World.block_lt_of_cell? W _ hca)).trans hca
      replace hcb := (BB.out.cell (World.block_lt_of_cell? W _ hcb)).trans hcb
      have p0 := eq_true i0
      have p1 := eq_true q
      have HI := hide (And.intro i0 q)
      have hw : wrap64 ((k : Int) + 1) = k + 1 := by have := HL.out; unfold wrap64; omega
      have HW := hide hw
      clear i0 i1 q hw hx hv
      go_wp2
      go_region
      go_wp2
      refine ⟨⟨(k : Int) + 1, ⟨by omega, by have := HI.out; omega⟩, by rw [HW.out], by have hB := BB.out; (repeat (first | (with_reducible assumption) | with_reducible exact be_refl _ | (with_reducible refine be_set ?_ (by dsimp only; omega)) | (with_reducible apply be_drew) | (with_reducible apply be_drewN) | (with_reducible refine be_alloc ?_ (by first | omega | (simp; omega) | simp)) | (with_reducible refine be_call (by with_reducible assumption) (by first | omega | (simp; omega) | simp) ?_)))⟩, ?_⟩
      rw [HW.out]; simp only [intOf]; have := HI.out; omega
    · have p1 := eq_false q
      clear q
      go_wp2
      go_ret
      exact ⟨rfl, BB.out⟩
theorem rd_lit {W : World} {b : Nat} {t : TypeId} {xs : List Int} (h : W.heap[b]? = some (.cells (xs.map (Value.int .i64)).toArray t (0, 0))) : Rd W 0 (some ⟨b, 0, none⟩) (xs.map (.int .i64)) := fun j v hv => ⟨_, rfl, Nat.zero_le _, by
  rw [add_head, bs_cell h, List.getElem?_toArray]; exact hv⟩
theorem own_turn {W W' : World} {base : Nat} {e : TypeId} {k : Nat} {lb : Option Nat} {n cap g B : Nat} {xs : List Value} (h : Own W base e k lb n cap xs) (t : Turn W W' g B) (hg : g < base) (hB : B < base) : Own W' base e k lb n cap xs :=
  h.keep fun b hb hlt => t.block b hlt (by subst hb; have := (own_base h).1; omega) (by subst hb; have := (own_base h).1; omega)
section
variable (k : Int) (hk : (Lit.int .i64 k).wf = true) (w W : World) (g B : Nat) (xs : List Int) (h : Lk w W g B none xs)
include hk h
theorem leave_p (bb : Bool) (ys : List Int) (hb : decide (k ∈ xs) = bb) (hy : ers k xs = ys) : Calls Try.prog 11 #[.pointer (some ⟨g, 0, none⟩), .int .i64 k] W fun e W' => e = .returned (.bool bb) ∧ Lk w W' g B none ys ∧ Turn W W' g B := by
  have := leave_r k hk w W g B none xs h rfl
  rw [hb, hy] at this
  exact this
theorem read_p (ys : List Int) (hl : xs.length ≤ 1000000) (hx : k ∉ xs) (hy : ins k xs = ys) : Calls Try.prog 8 #[.pointer (some ⟨g, 0, none⟩), .int .i64 k] W fun e W' => e = .returned (.bool true) ∧ Lk w W' g B none ys ∧ Turn W W' g B := by
  have := read_yes k hk w W g B none xs h hl rfl hx
  rw [hy] at this
  exact this
end
theorem writer_p (w W : World) (g B : Nat) (k : Int) (xs : List Int) (h : Lk w W g B (some k) xs) : Calls Try.prog 12 #[.pointer (some ⟨g, 0, none⟩)] W fun e W' => e = .returned (.tuple #[.int .i64 k, .bool true]) ∧ Below W.heap.size W W' := writer_calls w W g B (some k) xs h
theorem readers_p (n : Nat) (w W : World) (g B : Nat) (s : Option Int) (xs : List Int) (h : Lk w W g B s xs) (hl : xs.length ≤ 1000000) (hn : xs.length = n) :
    Calls Try.prog 10 #[.pointer (some ⟨g, 0, none⟩)] W fun e W' => ∃ lb cap, e = .returned (sl lb n cap) ∧ Own W' W.heap.size 3 1 lb n cap (xs.map (.int .i64)) ∧ Below W.heap.size W W' := hn ▸ readers_calls w W g B s xs h hl
theorem same_p (W : World) (xs : List Int) (lb ob : Option Nat) (n na nb ca cb : Nat) (hn : xs.length = n) (ha : Rd W 0 (lb.map fun b => ⟨b, 0, none⟩) (xs.map (.int .i64))) (hb : Rd W 0 (ob.map fun b => ⟨b, 0, none⟩) (xs.map (.int .i64))) (hl : xs.length ≤ 1000000000) (h1 : na = n) (h2 : nb = n) :
    Calls Try.prog 18 #[sl lb na ca, sl ob nb cb] W fun e W' => e = .returned (.bool true) ∧ Below W.heap.size W W' := by
  subst hn h1 h2
  exact same_calls W xs _ _ ca cb hl ha hb
set_option maxRecDepth 100000 in
set_option maxHeartbeats 4000000 in
theorem awake_calls (w : World) : Calls Try.prog 13 #[] w fun e W' => e = .returned (.bool true) ∧ Below w.heap.size w W' := by
  have HN := hide (new_calls w w (Below.refl _ _))
  go_enter Try.func13, Try.ntmps13
  go_wp2_with (first
    | (go_at_call 7; with_reducible refine HN.out.mono ?_; rintro e W1 ⟨g, B, rfl, hl, _, _, _⟩; have L0 := hide hl; clear hl)
    | (go_at_call 8; refine (read_p 3 (by decide) w _ g B [] L0.out [3] (by decide) (by decide) rfl).mono ?_; rintro e W2 ⟨rfl, hl, ht⟩; have L1 := hide hl; clear hl ht L0)
    | (go_at_call 8; refine (read_p 1 (by decide) w _ g B [3] L1.out [1, 3] (by decide) (by decide) rfl).mono ?_; rintro e W3 ⟨rfl, hl, ht⟩; have L2 := hide hl; clear hl ht L1)
    | (go_at_call 8; refine (read_no 3 (by decide) w _ g B none [1, 3] L2.out (by decide)).mono ?_; rintro e W4 ⟨rfl, hl, ht⟩; have L3 := hide hl; clear hl ht L2)
    | (go_at_call 9; refine (write_no 5 w _ g B none [1, 3] L3.out (by decide)).mono ?_; rintro e W5 ⟨rfl, hl, ht⟩; have L4 := hide hl; clear hl ht L3)
    | (go_at_call 10; refine (readers_p 2 w _ g B none [1, 3] L4.out (by decide) rfl).mono ?_; rintro e W6 ⟨lb, cap, rfl, ho, hb⟩; have O5 := hide ho; have OG := hide (And.intro L4.out.lt L4.out.map.lt); have L5 := hide (L4.out.then_ hb); clear ho hb L4)
    | (go_at_call 11; refine (leave_p 1 (by decide) w _ g B [1, 3] L5.out true [3] rfl rfl).mono ?_; rintro e W7 ⟨rfl, hl, ht⟩; have O6 := hide (own_turn O5.out ht OG.out.1 OG.out.2); have L6 := hide hl; clear hl ht L5 O5)
    | (go_at_call 11; refine (leave_p 1 (by decide) w _ g B [3] L6.out false [3] rfl rfl).mono ?_; rintro e W8 ⟨rfl, hl, ht⟩; have O7 := hide (own_turn O6.out ht OG.out.1 OG.out.2); have L7 := hide hl; clear hl ht L6 O6)
    | (go_at_call 11; refine (leave_p 3 (by decide) w _ g B [3] L7.out true [] rfl rfl).mono ?_; rintro e W9 ⟨rfl, hl, ht⟩; have O8 := hide (own_turn O7.out ht OG.out.1 OG.out.2); have L8 := hide hl; clear hl ht L7 O7)
    | (go_at_call 9; refine (write_yes 5 w _ g B none [] L8.out rfl rfl).mono ?_; rintro e W10 ⟨rfl, hl, ht⟩; have O9 := hide (own_turn O8.out ht OG.out.1 OG.out.2); have L9 := hide hl; clear hl ht L8 O8)
    | (go_at_call 12; refine (writer_calls w _ g B (some 5) [] L9.out).mono ?_; rintro e W11 ⟨rfl, hb⟩; have O10 := hide (O9.out.below hb); have L10 := hide (L9.out.then_ hb); clear hb L9 O9)
    | (go_at_call 18; refine (same_p _ [1, 3] lb (some W11.heap.size) 2 2 2 cap 2 rfl ((Rd.of (O10.out.alloc _)).lower (Nat.zero_le _)) (rd_lit (bs_new rfl)) (by decide) rfl rfl).mono ?_; rintro e W12 ⟨rfl, hb⟩; have L11 := hide (L10.out.then_ (((Below.refl _ _).alloc (Nat.le_refl _) _).trans (hb.mono (by simp)))); clear hb L10 O10)
    | (go_at_call 8; refine (read_no 5 (by decide) w _ g B (some 5) [] L11.out (by decide)).mono ?_; rintro e W13 ⟨rfl, hl, ht⟩; have L12 := hide hl; clear hl ht L11)
    | (go_at_call 10; refine (readers_p 0 w _ g B (some 5) [] L12.out (by decide) rfl).mono ?_; rintro e W14 ⟨lb2, cap2, rfl, ho, hb⟩; obtain ⟨q, hq⟩ := sl_to lb2 0 cap2; rw [hq]; have L13 := hide (L12.out.then_ hb); clear ho hb L12 hq)
    | go_in)
  go_ret
  exact ⟨rfl, L13.out.below⟩
end Go.Proofs.Ytkgfnldcgdlffaa.LockAwake


