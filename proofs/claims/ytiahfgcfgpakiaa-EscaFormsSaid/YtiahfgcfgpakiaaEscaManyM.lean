/- Parameters that are fed: what a number's digits, and a row of numbers, lead to: plain theorems, without a condition of their own. -/
import Derived.Test.YtiahfgcfgpakiaaEscaLoop
import Derived.ArgAppend
namespace Go.Proofs.Ytiahfgcfgpakiaa.EscaVal
open Go Go.RowKit Go.Proofs.YtiahfgcfgpakiaaKit Go.Proofs.Ytiahfgcfgpakiaa.Mem Go.Proofs.YtiahfgcfgpakiaaW.PrintWords Go.Proofs.YtiahfgcfgpakiaaW.PrintLast Go.Proofs.Ytiahfgcfgpakiaa.Split
set_option linter.unusedVariables false
set_option linter.unusedSimpArgs false
def valP (k : Int) : List Int → Int
  | [] => k
  | b :: ds => valP (10 * k + (b - 48)) ds
def numF (k : Int) : List Int → Int
  | [] => k
  | b :: ds => numF (numP k b) ds
def cap6 (x : Int) : Int := if 65535 < x then 65535 else x
def Digs (ds : List Int) : Prop := ∀ b ∈ ds, 48 ≤ b ∧ b ≤ 57
theorem num_cap {k b : Int} (hk : 0 ≤ k) (hb : 48 ≤ b ∧ b ≤ 57) : numP (cap6 k) b = cap6 (10 * k + (b - 48)) := by
  unfold numP cap6
  split <;> split <;> (try split) <;> (try split) <;> omega
theorem numF_cap (ds : List Int) (hd : Digs ds) (k : Int) (hk : 0 ≤ k) : numF (cap6 k) ds = cap6 (valP k ds) := by
  induction ds generalizing k with
  | nil => rfl
  | cons b ds ih =>
    have hb := hd b List.mem_cons_self
    show numF (numP (cap6 k) b) ds = cap6 (valP (10 * k + (b - 48)) ds)
    rw [num_cap hk hb]
    exact ih (fun x hx => hd x (List.mem_cons_of_mem _ hx)) _ (by omega)
theorem numF_start (ds : List Int) (hd : Digs ds) (hne : ds ≠ []) : numF (-1) ds = cap6 (valP 0 ds) := by
  cases ds with
  | nil => exact absurd rfl hne
  | cons b ds =>
    have hb := hd b List.mem_cons_self
    show numF (numP (-1) b) ds = cap6 (valP (10 * 0 + (b - 48)) ds)
    rw [show numP (-1) b = cap6 (10 * 0 + (b - 48)) by unfold numP cap6; rw [if_pos (by decide), if_neg (by omega)]; omega]
    exact numF_cap ds (fun x hx => hd x (List.mem_cons_of_mem _ hx)) _ (by omega)
def st2 (ps : List Int) (num : Int) : E8 := ⟨2, 0, 0, 0, ps, num, false, false⟩
theorem step_digit (ps : List Int) (num b : Int) (hb : 48 ≤ b ∧ b ≤ 57) : stepP (st2 ps num) b = (st2 ps (numP num b), []) := by
  unfold stepP st2 csiP
  rw [if_neg (show ¬ (2 : Int) = 1 by decide), if_pos rfl, if_neg (by omega), if_neg (by omega), if_pos hb]
theorem feed_digits (ps : List Int) (num : Int) (ds : List Int) (hd : Digs ds) : feedP (st2 ps num) ds = (st2 ps (numF num ds), []) := by
  induction ds generalizing num with
  | nil => rfl
  | cons b ds ih =>
    have hb := hd b List.mem_cons_self
    simp only [feedP, step_digit ps num b hb, ih (numP num b) (fun x hx => hd x (List.mem_cons_of_mem _ hx)), numF, List.nil_append]
theorem step_semi (ps : List Int) (num : Int) : stepP (st2 ps num) 59 = (st2 (toldP ps num) (-1), []) := rfl
theorem step_fin (ps : List Int) (num b : Int) (h1 : 64 ≤ b) (h2 : b ≤ 126) : stepP (st2 ps num) b = (e0, [(4, wrap32 b, lastP ps num)]) := by
  unfold stepP st2 csiP
  rw [if_neg (show ¬ (2 : Int) = 1 by decide), if_pos rfl, if_neg (by omega), if_neg (by omega), if_neg (by omega), if_neg (by omega), if_neg (by omega), if_neg (by omega), if_pos ⟨h1, h2⟩]
  rfl
theorem feed_begin : feedP e0 [27, 91] = (st2 [] (-1), []) := by kernel_rfl
theorem bytesOf_app (x y : ByteArray) : bytesOf (x ++ y) = bytesOf x ++ bytesOf y := by
  unfold bytesOf
  rw [ByteArray.data_append]
  simp
/-- What the law's loop over numbers keeps. -/
structure MI (i : Nat) (B : ByteArray) (ps : List Int) (num : Int) (want : List Int) : Prop where
  fed : feedP e0 (bytesOf B) = (st2 ps num, [])
  zero : i = 0 → ps = [] ∧ num = -1 ∧ want = []
  more : 0 < i → want = toldP ps num
  one : i = 1 → ps = []
  two : 1 < i → ps ≠ []
  size : B.size ≤ 2 + 8 * i
  len : want.length ≤ 16
theorem mi_begin : MI 0 ⟨#[27, 91]⟩ [] (-1) [] := ⟨feed_begin, fun _ => ⟨rfl, rfl, rfl⟩, fun h => absurd h (Nat.lt_irrefl _), fun h => absurd h (by decide), fun h => absurd h (by decide), by decide, by decide⟩
theorem told_ne {ps : List Int} {num : Int} : toldP ps num ≠ [] := by
  unfold toldP
  split
  · rename_i h16; intro e; subst e; simp at h16
  · simp
/-- One more number: its digits D, or none. -/
theorem MI.next {i : Nat} {B : ByteArray} {ps : List Int} {num : Int} {want : List Int} (h : MI i B ps num want) (B2 : ByteArray) (D : List Int) (k : Int) (hd : Digs D) (hk : numF (-1) D = k) (hD : D.length ≤ 7)
    (hB : bytesOf B2 = (if 0 < i then bytesOf B ++ [59] else bytesOf B) ++ D) :
    ∃ ps2, MI (i + 1) B2 ps2 k (if want.length < 16 then want ++ [k] else want) := by
  have hsz : B2.size = (bytesOf B2).length := (bytesOf_length B2).symm
  have hsz0 : B.size = (bytesOf B).length := (bytesOf_length B).symm
  have hS := h.size
  have hwl : (if want.length < 16 then want ++ [k] else want).length ≤ 16 := by
    split
    · simp; omega
    · exact h.len
  by_cases hi : 0 < i
  · have hw := h.more hi
    refine ⟨toldP ps num, ?_, fun e => by omega, fun _ => ?_, fun e => by omega, fun _ => told_ne, ?_, hwl⟩
    · rw [hB, if_pos hi, feed_append, feed_append, h.fed]
      simp only [feed_one, step_semi, feed_digits _ _ D hd, hk, List.append_nil]
    · rw [hw]
      generalize toldP ps num = u
      unfold toldP
      by_cases hu : 16 ≤ u.length
      · rw [if_neg (by omega), if_pos hu]
      · rw [if_pos (by omega), if_neg hu]
    · rw [hsz, hB, if_pos hi]
      simp only [List.length_append, List.length_cons, List.length_nil]
      omega
  · have hz := h.zero (by omega)
    obtain ⟨rfl, rfl, rfl⟩ := hz
    refine ⟨[], ?_, fun e => by omega, fun _ => ?_, fun _ => rfl, fun e => by omega, ?_, hwl⟩
    · rw [hB, if_neg hi, feed_append, h.fed]
      simp only [feed_digits _ _ D hd, hk, List.append_nil]
    · rfl
    · rw [hsz, hB, if_neg hi]
      simp only [List.length_append]
      omega
/-- What a last byte asks then. -/
theorem MI.last {i : Nat} {B : ByteArray} {ps : List Int} {num : Int} {want : List Int} (h : MI i B ps num want) (b : Int) (h1 : 64 ≤ b) (h2 : b ≤ 126) :
    feedP e0 (bytesOf B ++ [b]) = (e0, [(4, wrap32 b, if i = 1 ∧ want = [-1] then [] else want)]) := by
  rw [feed_snoc, h.fed]
  simp only [step_fin ps num b h1 h2, List.nil_append]
  congr 4
  unfold lastP
  by_cases hi0 : i = 0
  · obtain ⟨rfl, rfl, rfl⟩ := h.zero hi0
    rw [if_pos ⟨rfl, rfl⟩, if_neg (by omega)]
  · have hw := h.more (by omega)
    by_cases hi1 : i = 1
    · have hps := h.one hi1
      subst hps
      have hw2 : want = [num] := by rw [hw]; rfl
      by_cases hn : num = -1
      · rw [if_pos ⟨hn, rfl⟩, if_pos ⟨hi1, by rw [hw2, hn]⟩]
      · rw [if_neg (fun e => hn e.1), if_neg (fun e => by rw [hw2] at e; simp at e; exact hn e.2), hw]
    · have hps := h.two (by omega)
      rw [if_neg (fun e => hps (List.eq_nil_of_length_eq_zero e.2)), if_neg (fun e => hi1 e.1), hw]
end Go.Proofs.Ytiahfgcfgpakiaa.EscaVal


