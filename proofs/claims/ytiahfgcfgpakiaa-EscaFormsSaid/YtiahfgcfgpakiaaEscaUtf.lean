/- What the functions of the package utfd hand back: contracts, each for every byte and every rune that is begun. -/
import Derived.Test.YtiahfgcfgpakiaaEscaPlain
import Derived.Test.YtiahfgcfgpakiaaSplit
namespace Go.Proofs.Ytiahfgcfgpakiaa.EscaVal
open Go Go.RowKit Go.Proofs.YtiahfgcfgpakiaaKit Go.Proofs.Ytiahfgcfgpakiaa.Mem Go.Proofs.YtiahfgcfgpakiaaW.PrintWords Go.Proofs.YtiahfgcfgpakiaaW.PrintLast Go.Proofs.Ytiahfgcfgpakiaa.Split
set_option linter.unusedVariables false
set_option linter.unusedSimpArgs false
/-- Runes that end, in a row of their own. -/
def RunesR (W : World) (base : Nat) (v : Value) (l : List Int) : Prop := ∃ (lb : Option Nat) (cap : Nat), v = sl lb l.length cap ∧ Own W base 21 1 lb l.length cap (l.map (.int .i32))
theorem RunesR.nil (W : World) (base : Nat) : RunesR W base (.slice none 0 0) [] := ⟨none, 0, rfl, Own.nil _ _ _ _⟩
theorem RunesR.one {W : World} {base b : Nat} {x : Int} (h : W.heap[b]? = some (.cells #[.int .i32 x] 21 (0, 0))) (hb : base ≤ b) : RunesR W base (.slice (some ⟨b, 0, none⟩) 1 1) [x] :=
  ⟨some b, 1, rfl, Own.lit (vs := [.int .i32 x]) h rfl hb (show (1 : Nat) ≤ maxLen by unfold maxLen; omega)⟩
theorem RunesR.below {W W' : World} {base : Nat} {v : Value} {l : List Int} (h : RunesR W base v l) (hb : Below W.heap.size W W') : RunesR W' base v l := by
  obtain ⟨lb, cap, h1, h2⟩ := h
  exact ⟨lb, cap, h1, h2.below hb⟩
theorem RunesR.lower {W : World} {base base' : Nat} {v : Value} {l : List Int} (h : RunesR W base v l) (hb : base' ≤ base) : RunesR W base' v l := by
  obtain ⟨lb, cap, h1, h2⟩ := h
  exact ⟨lb, cap, h1, h2.lower hb⟩
theorem RunesR.set {W : World} {base : Nat} {v : Value} {l : List Int} {p : Addr} (h : RunesR W base v l) (hp : p.block < base) (x : Value) : RunesR (W.setCell p x) base v l := by
  obtain ⟨lb, cap, h1, h2⟩ := h
  exact ⟨lb, cap, h1, h2.far (fun b e => by subst e; have := (own_base h2).1; omega) x⟩
def UtfOut (w : World) (u : (Int × Int × Int) × List Int) (e : Ending) (w' : World) : Prop :=
  ∃ v : Value, e = .returned (.tuple #[.agg #[.int .i64 u.1.1, .int .i64 u.1.2.1, .int .i64 u.1.2.2], v]) ∧ RunesR w' w.heap.size v u.2 ∧ Below w.heap.size w w'
theorem begin_val (b : Int) (h0 : 0 ≤ b) (h1 : b ≤ 255) (w : World) : Calls Try.prog 34 #[.int .u8 b] w (UtfOut w (beginP b)) := by
  by_cases g1 : b < 128
  · rw [show beginP b = ((0, 0, 0), [b]) by unfold beginP; rw [if_pos g1]]
    have p1 : (b < 128) = True := eq_true g1
    clear g1
    go_enter Try.func34, Try.ntmps34
    go_wp2
    refine bodyPost_ret (results_ct rfl _ _ w.heap.size 31 #[.int .i64 0, .int .i64 0, .int .i64 0] (0, 0) _ rfl ?_ Try.underlying31 rfl (by kernel_rfl)) rfl ?_
    · (apply bs_eq; (case h => (repeat (first | (with_reducible assumption) | (with_reducible apply bs_same) | (with_reducible apply bs_far; case hp => (dsimp only; omega)) | (with_reducible apply bs_drew) | (with_reducible apply bs_drewN) | (with_reducible apply bs_new; (first | (with_reducible rfl) | (simp; done))) | (with_reducible apply bs_alloc) | (with_reducible apply bs_below; (case hb => with_reducible assumption); (case hB => first | omega | (simp; omega) | (simp; done)))))); (case e => rfl))
    · exact ⟨_, rfl, RunesR.one (b := w.heap.size + 1) (by (repeat (first | (with_reducible assumption) | (with_reducible apply bs_same) | (with_reducible apply bs_far; case hp => (dsimp only; omega)) | (with_reducible apply bs_drew) | (with_reducible apply bs_drewN) | (with_reducible apply bs_new; (first | (with_reducible rfl) | (simp; done))) | (with_reducible apply bs_alloc) | (with_reducible apply bs_below; (case hb => with_reducible assumption); (case hB => first | omega | (simp; omega) | (simp; done)))))) (by omega), by (repeat (first | (with_reducible assumption) | with_reducible exact be_refl _ | (with_reducible refine be_set ?_ (by dsimp only; omega)) | (with_reducible apply be_drew) | (with_reducible apply be_drewN) | (with_reducible refine be_alloc ?_ (by first | omega | (simp; omega) | simp)) | (with_reducible refine be_call (by with_reducible assumption) (by first | omega | (simp; omega) | simp) ?_)))⟩
  have p1 : (b < 128) = False := eq_false g1
  by_cases g2 : 192 ≤ b ∧ b < 224
  · rw [show beginP b = ((1, 128, Go.bits .and .i64 b 31), []) by unfold beginP; rw [if_neg g1, if_pos g2]]
    have p2 : (192 ≤ b) = True := eq_true g2.1
    have p3 : (b < 224) = True := eq_true g2.2
    clear g1 g2
    go_enter Try.func34, Try.ntmps34
    go_wp2
    refine bodyPost_ret (results_ct rfl _ _ w.heap.size 31 #[.int .i64 1, .int .i64 128, .int .i64 (Go.bits .and .i64 b 31)] (0, 0) _ rfl ?_ Try.underlying31 rfl (by kernel_rfl)) rfl ?_
    · (apply bs_eq; (case h => (repeat (first | (with_reducible assumption) | (with_reducible apply bs_same) | (with_reducible apply bs_far; case hp => (dsimp only; omega)) | (with_reducible apply bs_drew) | (with_reducible apply bs_drewN) | (with_reducible apply bs_new; (first | (with_reducible rfl) | (simp; done))) | (with_reducible apply bs_alloc) | (with_reducible apply bs_below; (case hb => with_reducible assumption); (case hB => first | omega | (simp; omega) | (simp; done)))))); (case e => rfl))
    · exact ⟨_, rfl, RunesR.nil _ _, by (repeat (first | (with_reducible assumption) | with_reducible exact be_refl _ | (with_reducible refine be_set ?_ (by dsimp only; omega)) | (with_reducible apply be_drew) | (with_reducible apply be_drewN) | (with_reducible refine be_alloc ?_ (by first | omega | (simp; omega) | simp)) | (with_reducible refine be_call (by with_reducible assumption) (by first | omega | (simp; omega) | simp) ?_)))⟩
  have q2 : (192 ≤ b) = False ∨ (192 ≤ b) = True ∧ (b < 224) = False := by
    by_cases h : 192 ≤ b
    · exact .inr ⟨eq_true h, eq_false (fun h2 => g2 ⟨h, h2⟩)⟩
    · exact .inl (eq_false h)
  by_cases g3 : 224 ≤ b ∧ b < 240
  · rw [show beginP b = ((2, 2048, Go.bits .and .i64 b 15), []) by unfold beginP; rw [if_neg g1, if_neg g2, if_pos g3]]
    have p2 : (192 ≤ b) = True := eq_true (by omega)
    have p3 : (b < 224) = False := eq_false (by omega)
    have p4 : (224 ≤ b) = True := eq_true g3.1
    have p5 : (b < 240) = True := eq_true g3.2
    clear g1 g2 g3 q2
    go_enter Try.func34, Try.ntmps34
    go_wp2
    refine bodyPost_ret (results_ct rfl _ _ w.heap.size 31 #[.int .i64 2, .int .i64 2048, .int .i64 (Go.bits .and .i64 b 15)] (0, 0) _ rfl ?_ Try.underlying31 rfl (by kernel_rfl)) rfl ?_
    · (apply bs_eq; (case h => (repeat (first | (with_reducible assumption) | (with_reducible apply bs_same) | (with_reducible apply bs_far; case hp => (dsimp only; omega)) | (with_reducible apply bs_drew) | (with_reducible apply bs_drewN) | (with_reducible apply bs_new; (first | (with_reducible rfl) | (simp; done))) | (with_reducible apply bs_alloc) | (with_reducible apply bs_below; (case hb => with_reducible assumption); (case hB => first | omega | (simp; omega) | (simp; done)))))); (case e => rfl))
    · exact ⟨_, rfl, RunesR.nil _ _, by (repeat (first | (with_reducible assumption) | with_reducible exact be_refl _ | (with_reducible refine be_set ?_ (by dsimp only; omega)) | (with_reducible apply be_drew) | (with_reducible apply be_drewN) | (with_reducible refine be_alloc ?_ (by first | omega | (simp; omega) | simp)) | (with_reducible refine be_call (by with_reducible assumption) (by first | omega | (simp; omega) | simp) ?_)))⟩
  by_cases g4 : 240 ≤ b ∧ b < 248
  · rw [show beginP b = ((3, 65536, Go.bits .and .i64 b 7), []) by unfold beginP; rw [if_neg g1, if_neg g2, if_neg g3, if_pos g4]]
    have p2 : (192 ≤ b) = True := eq_true (by omega)
    have p3 : (b < 224) = False := eq_false (by omega)
    have p4 : (224 ≤ b) = True := eq_true (by omega)
    have p5 : (b < 240) = False := eq_false (by omega)
    have p6 : (240 ≤ b) = True := eq_true g4.1
    have p7 : (b < 248) = True := eq_true g4.2
    clear g1 g2 g3 g4 q2
    go_enter Try.func34, Try.ntmps34
    go_wp2
    refine bodyPost_ret (results_ct rfl _ _ w.heap.size 31 #[.int .i64 3, .int .i64 65536, .int .i64 (Go.bits .and .i64 b 7)] (0, 0) _ rfl ?_ Try.underlying31 rfl (by kernel_rfl)) rfl ?_
    · (apply bs_eq; (case h => (repeat (first | (with_reducible assumption) | (with_reducible apply bs_same) | (with_reducible apply bs_far; case hp => (dsimp only; omega)) | (with_reducible apply bs_drew) | (with_reducible apply bs_drewN) | (with_reducible apply bs_new; (first | (with_reducible rfl) | (simp; done))) | (with_reducible apply bs_alloc) | (with_reducible apply bs_below; (case hb => with_reducible assumption); (case hB => first | omega | (simp; omega) | (simp; done)))))); (case e => rfl))
    · exact ⟨_, rfl, RunesR.nil _ _, by (repeat (first | (with_reducible assumption) | with_reducible exact be_refl _ | (with_reducible refine be_set ?_ (by dsimp only; omega)) | (with_reducible apply be_drew) | (with_reducible apply be_drewN) | (with_reducible refine be_alloc ?_ (by first | omega | (simp; omega) | simp)) | (with_reducible refine be_call (by with_reducible assumption) (by first | omega | (simp; omega) | simp) ?_)))⟩
  rw [show beginP b = ((0, 0, 0), [65533]) by unfold beginP; rw [if_neg g1, if_neg g2, if_neg g3, if_neg g4]]
  by_cases g5 : b < 192
  · have p2 : (192 ≤ b) = False := eq_false (by omega)
    have p4 : (224 ≤ b) = False := eq_false (by omega)
    have p6 : (240 ≤ b) = False := eq_false (by omega)
    clear g1 g2 g3 g4 q2 g5
    go_enter Try.func34, Try.ntmps34
    go_wp2
    refine bodyPost_ret (results_ct rfl _ _ w.heap.size 31 #[.int .i64 0, .int .i64 0, .int .i64 0] (0, 0) _ rfl ?_ Try.underlying31 rfl (by kernel_rfl)) rfl ?_
    · (apply bs_eq; (case h => (repeat (first | (with_reducible assumption) | (with_reducible apply bs_same) | (with_reducible apply bs_far; case hp => (dsimp only; omega)) | (with_reducible apply bs_drew) | (with_reducible apply bs_drewN) | (with_reducible apply bs_new; (first | (with_reducible rfl) | (simp; done))) | (with_reducible apply bs_alloc) | (with_reducible apply bs_below; (case hb => with_reducible assumption); (case hB => first | omega | (simp; omega) | (simp; done)))))); (case e => rfl))
    · exact ⟨_, rfl, RunesR.one (b := w.heap.size + 1) (by (repeat (first | (with_reducible assumption) | (with_reducible apply bs_same) | (with_reducible apply bs_far; case hp => (dsimp only; omega)) | (with_reducible apply bs_drew) | (with_reducible apply bs_drewN) | (with_reducible apply bs_new; (first | (with_reducible rfl) | (simp; done))) | (with_reducible apply bs_alloc) | (with_reducible apply bs_below; (case hb => with_reducible assumption); (case hB => first | omega | (simp; omega) | (simp; done)))))) (by omega), by (repeat (first | (with_reducible assumption) | with_reducible exact be_refl _ | (with_reducible refine be_set ?_ (by dsimp only; omega)) | (with_reducible apply be_drew) | (with_reducible apply be_drewN) | (with_reducible refine be_alloc ?_ (by first | omega | (simp; omega) | simp)) | (with_reducible refine be_call (by with_reducible assumption) (by first | omega | (simp; omega) | simp) ?_)))⟩
  · have p2 : (192 ≤ b) = True := eq_true (by omega)
    have p3 : (b < 224) = False := eq_false (by omega)
    have p4 : (224 ≤ b) = True := eq_true (by omega)
    have p5 : (b < 240) = False := eq_false (by omega)
    have p6 : (240 ≤ b) = True := eq_true (by omega)
    have p7 : (b < 248) = False := eq_false (by omega)
    clear g1 g2 g3 g4 q2 g5
    go_enter Try.func34, Try.ntmps34
    go_wp2
    refine bodyPost_ret (results_ct rfl _ _ w.heap.size 31 #[.int .i64 0, .int .i64 0, .int .i64 0] (0, 0) _ rfl ?_ Try.underlying31 rfl (by kernel_rfl)) rfl ?_
    · (apply bs_eq; (case h => (repeat (first | (with_reducible assumption) | (with_reducible apply bs_same) | (with_reducible apply bs_far; case hp => (dsimp only; omega)) | (with_reducible apply bs_drew) | (with_reducible apply bs_drewN) | (with_reducible apply bs_new; (first | (with_reducible rfl) | (simp; done))) | (with_reducible apply bs_alloc) | (with_reducible apply bs_below; (case hb => with_reducible assumption); (case hB => first | omega | (simp; omega) | (simp; done)))))); (case e => rfl))
    · exact ⟨_, rfl, RunesR.one (b := w.heap.size + 1) (by (repeat (first | (with_reducible assumption) | (with_reducible apply bs_same) | (with_reducible apply bs_far; case hp => (dsimp only; omega)) | (with_reducible apply bs_drew) | (with_reducible apply bs_drewN) | (with_reducible apply bs_new; (first | (with_reducible rfl) | (simp; done))) | (with_reducible apply bs_alloc) | (with_reducible apply bs_below; (case hb => with_reducible assumption); (case hB => first | omega | (simp; omega) | (simp; done)))))) (by omega), by (repeat (first | (with_reducible assumption) | with_reducible exact be_refl _ | (with_reducible refine be_set ?_ (by dsimp only; omega)) | (with_reducible apply be_drew) | (with_reducible apply be_drewN) | (with_reducible refine be_alloc ?_ (by first | omega | (simp; omega) | simp)) | (with_reducible refine be_call (by with_reducible assumption) (by first | omega | (simp; omega) | simp) ?_)))⟩
theorem no_val (r : Int) (t : Bool) (ht : (decide (1114111 < r) || (decide (55296 ≤ r) && decide (r ≤ 57343))) = t) (h0 : 0 ≤ r) (w : World) : Calls Try.prog 35 #[.int .i64 r] w fun e w' => e = .returned (.bool t) ∧ w' = w := by
  have p0 : (r < 0) = False := eq_false (by omega)
  by_cases a1 : 1114111 < r
  · have e1 : t = true := by rw [← ht]; simp [a1]
    subst e1
    have p1 : (1114111 < r) = True := eq_true a1
    clear ht a1 h0
    go_enter Try.func35, Try.ntmps35
    go_wp2
    go_ret
    exact ⟨rfl, rfl⟩
  · have p1 : (1114111 < r) = False := eq_false a1
    by_cases a2 : 55296 ≤ r
    · have p2 : (55296 ≤ r) = True := eq_true a2
      have e1 : t = decide (r ≤ 57343) := by rw [← ht]; simp [a2]; omega
      subst e1
      clear ht a1 h0 a2
      go_enter Try.func35, Try.ntmps35
      go_wp2
      go_ret
      exact ⟨rfl, rfl⟩
    · have p2 : (55296 ≤ r) = False := eq_false a2
      have e1 : t = false := by rw [← ht]; simp [a2]; omega
      subst e1
      clear ht a1 h0 a2
      go_enter Try.func35, Try.ntmps35
      go_wp2
      go_ret
      exact ⟨rfl, rfl⟩
end Go.Proofs.Ytiahfgcfgpakiaa.EscaVal


