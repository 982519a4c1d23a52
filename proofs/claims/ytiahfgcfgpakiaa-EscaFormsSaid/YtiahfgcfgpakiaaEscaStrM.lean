/- What stands in a string asks nothing: plain theorems on lists, and Feed's contract in a string. -/
import Derived.Test.YtiahfgcfgpakiaaEscaLoop
namespace Go.Proofs.Ytiahfgcfgpakiaa.EscaVal
open Go Go.RowKit Go.Proofs.YtiahfgcfgpakiaaKit Go.Proofs.Ytiahfgcfgpakiaa.Mem Go.Proofs.YtiahfgcfgpakiaaW.PrintWords Go.Proofs.YtiahfgcfgpakiaaW.PrintLast Go.Proofs.Ytiahfgcfgpakiaa.Split
set_option linter.unusedVariables false
set_option linter.unusedSimpArgs false
def strE : E8 := ⟨3, 0, 0, 0, [], 0, false, false⟩
theorem wf_strE : Wf strE := wf_e0.to 3
def keepB (c : Int) : Bool := c != 7 && c != 24 && c != 26 && c != 27
def strC (k : Nat) : Int := match k with | 0 => 93 | 1 => 80 | 2 => 88 | 3 => 94 | _ => 95
def endL (k : Nat) : List Int := match k with | 0 => [7] | 1 => [24] | 2 => [26] | 3 => [27, 92] | 4 => [27, 120, 7] | _ => [27, 27, 92]
theorem feed_open (k : Nat) (hk : k ≤ 4) : feedP e0 [27, strC k] = (strE, []) := by
  have h : k = 0 ∨ k = 1 ∨ k = 2 ∨ k = 3 ∨ k = 4 := by omega
  rcases h with h | h | h | h | h
  all_goals
    subst h
    rfl
theorem step_in {b : Int} (h : keepB b = true) : stepP strE b = (strE, []) := by
  simp only [keepB, Bool.and_eq_true, bne_iff_ne] at h
  unfold stepP strE textP
  rw [if_neg (show ¬ (3 : Int) = 1 by decide), if_neg (show ¬ (3 : Int) = 2 by decide), if_pos rfl, if_neg (by omega), if_neg (by omega)]
theorem feed_in (xs : List Int) : feedP strE (xs.filter keepB) = (strE, []) := by
  induction xs with
  | nil => rfl
  | cons b xs ih =>
    by_cases h : keepB b = true
    · rw [List.filter_cons_of_pos h]
      simp only [feedP, step_in h, ih, List.nil_append]
    · rw [List.filter_cons_of_neg (by simpa using h)]
      exact ih
theorem feed_string (k : Nat) (hk : k ≤ 4) (xs : List Int) : feedP e0 ([27, strC k] ++ xs.filter keepB) = (strE, []) := by
  rw [feed_append, feed_open k hk, feed_in]
  rfl
theorem feed_end (k : Nat) (hk : k ≤ 5) : feedP strE (endL k) = (e0, []) := by
  have h : k = 0 ∨ k = 1 ∨ k = 2 ∨ k = 3 ∨ k = 4 ∨ k = 5 := by omega
  rcases h with h | h | h | h | h | h
  all_goals
    subst h
    rfl
theorem feed_a : feedP e0 [97] = (e0, [(1, 97, [])]) := by kernel_rfl
theorem filter_snoc (xs : List Int) (j : Nat) (x : Int) (h : xs[j]? = some x) : (xs.take (j + 1)).filter keepB = (xs.take j).filter keepB ++ (if keepB x = true then [x] else []) := by
  rw [List.take_add_one, h]
  simp only [Option.toList_some, List.filter_append]
  congr 1
  by_cases hk : keepB x = true <;> simp [hk]
/-- Into the string. -/
theorem feedS (bs : List Int) (hbb : ∀ x ∈ bs, 0 ≤ x ∧ x ≤ 255) (hlen : bs.length ≤ 100000) (n : Nat) (hn : bs.length = n) (h : feedP e0 bs = (strE, [])) (oa : Option Addr) (cb : Nat) (w : World) (hr : Rd w 0 oa (bs.map (.int .u8))) :
    Calls Try.prog 11 #[.agg #[.int .i64 0, .int .i64 0, .int .i64 0, .int .i64 0, .slice none 0 0, .int .i64 0, .bool false, .bool false], .slice oa n cb] w fun e w' => ∃ (A : Option Addr) (c : Nat) (cap : Nat) (o : Option Addr), e = .returned (.tuple #[.agg #[.int .i64 3, .int .i64 0, .int .i64 0, .int .i64 0, .slice A 0 c, .int .i64 0, .bool false, .bool false], .slice o 0 cap]) ∧ Below w.heap.size w w' :=
  (feed_zero_at bs hbb hlen n hn strE [] h 0 rfl oa cb w hr).mono fun e w' h2 => by
    obtain ⟨A, c, lb, cap, o, ds, rfl, _, _, ho, ha, hb⟩ := h2
    exact ⟨A, c, cap, o, rfl, hb⟩
/-- Out of the string. -/
theorem feedT (bs : List Int) (hbb : ∀ x ∈ bs, 0 ≤ x ∧ x ≤ 255) (hlen : bs.length ≤ 100000) (n : Nat) (hn : bs.length = n) (h : feedP strE bs = (e0, [])) (A0 : Option Addr) (c0 : Nat) (oa : Option Addr) (cb : Nat) (w : World) (hr : Rd w 0 oa (bs.map (.int .u8))) :
    Calls Try.prog 11 #[.agg #[.int .i64 3, .int .i64 0, .int .i64 0, .int .i64 0, .slice A0 0 c0, .int .i64 0, .bool false, .bool false], .slice oa n cb] w fun e w' => ∃ (A : Option Addr) (c : Nat) (cap : Nat) (o : Option Addr), e = .returned (.tuple #[.agg #[.int .i64 0, .int .i64 0, .int .i64 0, .int .i64 0, .slice A 0 c, .int .i64 0, .bool false, .bool false], .slice o 0 cap]) ∧ Below w.heap.size w w' :=
  (feed_next_at strE wf_strE bs hbb hlen n hn e0 [] h 0 rfl A0 c0 oa cb w (Nat.zero_le _) (fun _ _ => ⟨rfl, by simp [strE], fun h => absurd h (Nat.lt_irrefl 0)⟩) hr).mono fun e w' h2 => by
    obtain ⟨A, c, lb, cap, o, ds, rfl, _, _, ho, ha, hb⟩ := h2
    exact ⟨A, c, cap, o, rfl, hb⟩
/-- A literal row of bytes. -/
def RowV (v : Value) (l : List Int) (W : World) : Prop := ∃ b, v = .slice (some ⟨b, 0, none⟩) l.length l.length ∧ W.heap[b]? = some (.cells (l.map (Value.int .u8)).toArray 5 (0, 0))
theorem RowV.below {v : Value} {l : List Int} {W W' : World} (h : RowV v l W) (hb : Below W.heap.size W W') : RowV v l W' := by
  obtain ⟨b, h1, h2⟩ := h
  exact ⟨b, h1, at_below hb h2⟩
def TabV (b : Nat) (W : World) : Prop := ∃ cs : Array Value, W.heap[b]? = some (.cells cs 36 (0, 0)) ∧ ∀ k, k ≤ 5 → ∃ u, cs[k]? = some u ∧ RowV u (endL k) W
theorem TabV.below {b : Nat} {W W' : World} (h : TabV b W) (hb : Below W.heap.size W W') : TabV b W' := by
  obtain ⟨cs, h1, h2⟩ := h
  exact ⟨cs, at_below hb h1, fun k hk => by obtain ⟨u, h3, h4⟩ := h2 k hk; exact ⟨u, h3, h4.below hb⟩⟩
def esA (m : Int) (A : Option Addr) (c : Nat) : Value := .agg #[.int .i64 m, .int .i64 0, .int .i64 0, .int .i64 0, .slice A 0 c, .int .i64 0, .bool false, .bool false]
/-- What each operation of the region brings about. -/
def G13 (A1 : Option Addr) (q1 : Nat) (fin : Int) (K6 B0 : Nat) (i : Nat) (v : Value) (W : World) : Prop := match i with
  | 0 => v = esA 3 A1 q1
  | 1 => RowV v [7] W
  | 2 => RowV v [24] W
  | 3 => RowV v [26] W
  | 4 => RowV v [27, 92] W
  | 5 => RowV v [27, 120, 7] W
  | 6 => RowV v [27, 27, 92] W
  | 7 => ∃ b, v = .slice (some ⟨b, 0, none⟩) 6 6 ∧ TabV b W
  | 8 => v = .int .i64 fin
  | 9 => v = .int .i64 (Go.bits .and .i64 fin 255)
  | 10 => v = .int .i64 (K6 : Int)
  | 11 => ∃ b, v = .pointer (some ⟨b, K6, none⟩) ∧ TabV b W
  | 12 => RowV v (endL K6) W
  | 13 => ∃ A c o cap, v = .tuple #[esA 0 A c, .slice o 0 cap]
  | 14 => ∃ A c o cap, v = .tuple #[esA 0 A c, .slice o 0 cap]
  | 15 => ∃ A c, v = esA 0 A c
  | 16 => ∃ o cap, v = .slice o 0 cap
  | 17 => ∃ b, v = .pointer (some ⟨b, 0, none⟩) ∧ B0 ≤ b ∧ W.heap[b]? = some (.cells esZ 33 (0, 0))
  | _ => True
theorem G13.below {A1 : Option Addr} {q1 : Nat} {fin : Int} {K6 B0 i : Nat} {v : Value} {W W' : World} (h : G13 A1 q1 fin K6 B0 i v W) (hb : Below W.heap.size W W') : G13 A1 q1 fin K6 B0 i v W' := by
  unfold G13 at h ⊢
  split at h
  all_goals first
    | exact h
    | exact RowV.below h hb
    | (obtain ⟨b, h1, h2⟩ := h; exact ⟨b, h1, h2.below hb⟩)
    | (obtain ⟨b, h1, h2, h3⟩ := h; exact ⟨b, h1, h2, at_below hb h3⟩)
end Go.Proofs.Ytiahfgcfgpakiaa.EscaVal


