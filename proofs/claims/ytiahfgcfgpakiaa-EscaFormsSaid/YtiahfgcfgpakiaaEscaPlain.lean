/- What bytes lead to, as plain functions on lists: the package esca and utfd, told in Lean. -/
import Derived.Test.YtiahfgcfgpakiaaEscaLast
namespace Go.Proofs.Ytiahfgcfgpakiaa.EscaVal
open Go Go.RowKit Go.Proofs.YtiahfgcfgpakiaaKit Go.Proofs.Ytiahfgcfgpakiaa.Mem Go.Proofs.YtiahfgcfgpakiaaW.PrintWords Go.Proofs.YtiahfgcfgpakiaaW.PrintLast
set_option linter.unusedVariables false
set_option linter.unusedSimpArgs false
/-- Where an escape is. -/
structure E8 where
  m : Int
  n1 : Int
  n2 : Int
  n3 : Int
  ps : List Int
  num : Int
  q : Bool
  r : Bool
abbrev Act3 := Int × Int × List Int
def e0 : E8 := ⟨0, 0, 0, 0, [], 0, false, false⟩
def toE (s : E8) (x : Int) : E8 := ⟨x, s.n1, s.n2, s.n3, [], 0, false, false⟩
def escapeP (s : E8) (b : Int) : E8 × List Act3 :=
  if b = 27 then (toE s 1, [])
  else if b = 24 ∨ b = 26 then (toE s 0, [])
  else if b = 91 then (⟨2, s.n1, s.n2, s.n3, [], -1, false, false⟩, [])
  else if b = 93 ∨ b = 80 ∨ b = 88 ∨ b = 94 ∨ b = 95 then (toE s 3, [])
  else if 48 ≤ b ∧ b ≤ 126 then (toE s 0, [(3, wrap32 b, [])])
  else if 32 ≤ b ∧ b ≤ 47 then (toE s 4, [])
  else if b < 32 then (s, ctl b)
  else (toE s 0, [])
def csiP (s : E8) (b : Int) : E8 × List Act3 :=
  if b = 27 then (toE s 1, [])
  else if b = 24 ∨ b = 26 then (toE s 0, [])
  else if 48 ≤ b ∧ b ≤ 57 then (⟨s.m, s.n1, s.n2, s.n3, s.ps, numP s.num b, s.q, s.r⟩, [])
  else if b = 59 then (⟨s.m, s.n1, s.n2, s.n3, toldP s.ps s.num, -1, s.q, s.r⟩, [])
  else if b = 63 ∧ s.ps.length = 0 ∧ s.num = -1 ∧ s.q = false then (⟨s.m, s.n1, s.n2, s.n3, s.ps, s.num, true, s.r⟩, [])
  else if 32 ≤ b ∧ b ≤ 63 then (⟨s.m, s.n1, s.n2, s.n3, s.ps, s.num, s.q, true⟩, [])
  else if 64 ≤ b ∧ b ≤ 126 then (toE s 0, lastA s.ps s.num s.q s.r b)
  else if b < 32 then (s, ctl b)
  else (s, [])
def textP (s : E8) (b : Int) : E8 :=
  if b = 7 ∨ b = 24 ∨ b = 26 then toE s 0 else if b = 27 then toE s 5 else s
def endP (s : E8) (b : Int) : E8 :=
  if b = 92 then toE s 0 else if b = 27 then s else toE s 3
def skipP (s : E8) (b : Int) : E8 :=
  if b = 27 then toE s 1 else if b = 24 ∨ b = 26 then toE s 0 else if 48 ≤ b ∧ b ≤ 126 then toE s 0 else s
/-- What a byte begins, or is. -/
def beginP (b : Int) : (Int × Int × Int) × List Int :=
  if b < 128 then ((0, 0, 0), [b])
  else if 192 ≤ b ∧ b < 224 then ((1, 128, Go.bits .and .i64 b 31), [])
  else if 224 ≤ b ∧ b < 240 then ((2, 2048, Go.bits .and .i64 b 15), [])
  else if 240 ≤ b ∧ b < 248 then ((3, 65536, Go.bits .and .i64 b 7), [])
  else ((0, 0, 0), [65533])
def utfP (n1 n2 n3 b : Int) : (Int × Int × Int) × List Int :=
  if n1 ≤ 0 then beginP b
  else if b < 128 ∨ 191 < b then ((beginP b).1, 65533 :: (beginP b).2)
  else if 0 < n1 - 1 then ((n1 - 1, n2, 64 * n3 + Go.bits .and .u8 b 63), [])
  else if 64 * n3 + Go.bits .and .u8 b 63 < n2 ∨ 1114111 < 64 * n3 + Go.bits .and .u8 b 63 ∨ (55296 ≤ 64 * n3 + Go.bits .and .u8 b 63 ∧ 64 * n3 + Go.bits .and .u8 b 63 ≤ 57343) then ((0, 0, 0), [65533])
  else ((0, 0, 0), [64 * n3 + Go.bits .and .u8 b 63])
def signP (s : E8) (x : Int) : E8 × List Act3 :=
  if x = 27 then (toE s 1, [])
  else if x < 32 then (s, ctl x)
  else if 127 ≤ x ∧ x ≤ 159 then (s, [])
  else (s, [(1, x, [])])
def signsP (s : E8) : List Int → E8 × List Act3
  | [] => (s, [])
  | x :: xs => ((signsP (signP s x).1 xs).1, (signP s x).2 ++ (signsP (signP s x).1 xs).2)
def utfE (s : E8) (b : Int) : E8 := ⟨s.m, (utfP s.n1 s.n2 s.n3 b).1.1, (utfP s.n1 s.n2 s.n3 b).1.2.1, (utfP s.n1 s.n2 s.n3 b).1.2.2, s.ps, s.num, s.q, s.r⟩
def groundP (s : E8) (b : Int) : E8 × List Act3 := signsP (utfE s b) (utfP s.n1 s.n2 s.n3 b).2
def stepP (s : E8) (b : Int) : E8 × List Act3 :=
  if s.m = 1 then escapeP s b
  else if s.m = 2 then csiP s b
  else if s.m = 3 then (textP s b, [])
  else if s.m = 4 then (skipP s b, [])
  else if s.m = 5 then (endP s b, [])
  else groundP s b
def feedP (s : E8) : List Int → E8 × List Act3
  | [] => (s, [])
  | b :: bs => ((feedP (stepP s b).1 bs).1, (stepP s b).2 ++ (feedP (stepP s b).1 bs).2)
/-- An escape that can be. -/
structure Wf (s : E8) : Prop where
  n0 : 0 ≤ s.n1 ∧ s.n1 ≤ 3
  g0 : 0 ≤ s.n3 ∧ s.n3 < 32768
  g2 : s.n1 = 2 → s.n3 < 512
  g3 : s.n1 = 3 → s.n3 < 8
  k0 : -1 ≤ s.num ∧ s.num ≤ 65535
  l0 : s.ps.length ≤ 16
theorem wf_e0 : Wf e0 := ⟨⟨by decide, by decide⟩, ⟨by decide, by decide⟩, by decide, by decide, ⟨by decide, by decide⟩, by decide⟩
theorem Wf.to {s : E8} (h : Wf s) (x : Int) : Wf (toE s x) := ⟨h.n0, h.g0, h.g2, h.g3, ⟨by show (-1 : Int) ≤ 0; decide, by show (0 : Int) ≤ 65535; decide⟩, by show ([] : List Int).length ≤ 16; decide⟩
theorem num_ok {n b : Int} (h : -1 ≤ n ∧ n ≤ 65535) (hb : 48 ≤ b ∧ b ≤ 57) : -1 ≤ numP n b ∧ numP n b ≤ 65535 := by
  unfold numP
  split
  · omega
  · split <;> omega
theorem told_ok {ps : List Int} (n : Int) (h : ps.length ≤ 16) : (toldP ps n).length ≤ 16 := by
  unfold toldP
  split
  · exact h
  · rw [List.length_append]; simp; omega
theorem Wf.escape {s : E8} (h : Wf s) (b : Int) : Wf (escapeP s b).1 := by
  unfold escapeP
  repeat' split
  all_goals first | exact h | exact h.to _ | exact ⟨h.n0, h.g0, h.g2, h.g3, ⟨by show (-1 : Int) ≤ -1; decide, by show (-1 : Int) ≤ 65535; decide⟩, by show ([] : List Int).length ≤ 16; decide⟩
theorem Wf.csi {s : E8} (h : Wf s) (b : Int) : Wf (csiP s b).1 := by
  unfold csiP
  repeat' split
  all_goals first
    | exact h
    | exact h.to _
    | exact ⟨h.n0, h.g0, h.g2, h.g3, h.k0, h.l0⟩
    | exact ⟨h.n0, h.g0, h.g2, h.g3, ⟨by show (-1 : Int) ≤ -1; decide, by show (-1 : Int) ≤ 65535; decide⟩, told_ok _ h.l0⟩
    | exact ⟨h.n0, h.g0, h.g2, h.g3, num_ok h.k0 (by assumption), h.l0⟩
theorem Wf.text {s : E8} (h : Wf s) (b : Int) : Wf (textP s b) := by
  unfold textP
  repeat' split
  all_goals first | exact h | exact h.to _
theorem Wf.skip {s : E8} (h : Wf s) (b : Int) : Wf (skipP s b) := by
  unfold skipP
  repeat' split
  all_goals first | exact h | exact h.to _
theorem Wf.end_ {s : E8} (h : Wf s) (b : Int) : Wf (endP s b) := by
  unfold endP
  repeat' split
  all_goals first | exact h | exact h.to _
theorem Wf.sign {s : E8} (h : Wf s) (x : Int) : Wf (signP s x).1 := by
  unfold signP
  repeat' split
  all_goals first | exact h | exact h.to _
theorem Wf.signs {s : E8} (h : Wf s) (xs : List Int) : Wf (signsP s xs).1 := by
  induction xs generalizing s with
  | nil => exact h
  | cons x xs ih => exact ih (h.sign x)
theorem and63 (b : Int) : 0 ≤ Go.bits .and .u8 b 63 ∧ Go.bits .and .u8 b 63 ≤ 63 := by
  have hb : (BitVec.ofInt 8 63).toNat = 63 := by decide
  have hx : (BitVec.ofInt 8 b).toNat &&& 63 ≤ 63 := Nat.and_le_right
  have e : Go.bits .and .u8 b 63 = (((BitVec.ofInt 8 b).toNat &&& 63 : Nat) : Int) := by
    show IntKind.u8.wrap ((BitVec.ofInt 8 b &&& BitVec.ofInt 8 63).toNat : Int) = _
    rw [BitVec.toNat_and, hb, IntKind.wrap_u8]
    omega
  rw [e]; omega
theorem begin_wf (b : Int) : (0 ≤ (beginP b).1.1 ∧ (beginP b).1.1 ≤ 3) ∧ (0 ≤ (beginP b).1.2.2 ∧ (beginP b).1.2.2 ≤ 31) ∧ ((beginP b).1.1 = 2 → (beginP b).1.2.2 ≤ 15) ∧ ((beginP b).1.1 = 3 → (beginP b).1.2.2 ≤ 7) := by
  have h1 : 0 ≤ Go.bits .and .i64 b 31 ∧ Go.bits .and .i64 b 31 ≤ 31 := and_range 5 (by omega) b
  have h2 : 0 ≤ Go.bits .and .i64 b 15 ∧ Go.bits .and .i64 b 15 ≤ 15 := and_range 4 (by omega) b
  have h3 : 0 ≤ Go.bits .and .i64 b 7 ∧ Go.bits .and .i64 b 7 ≤ 7 := and_range 3 (by omega) b
  unfold beginP
  repeat' split
  all_goals (dsimp only; omega)
theorem utf_wf {s : E8} (h : Wf s) (b : Int) : Wf (utfE s b) := by
  have hb := begin_wf b
  have h6 := and63 b
  have ⟨h1, h2, h3, h4, h5, h7⟩ := h
  refine ⟨?_, ?_, ?_, ?_, h5, h7⟩
  all_goals
    unfold utfE utfP
    dsimp only
    repeat' split
    all_goals (try dsimp only) <;> omega
theorem Wf.ground {s : E8} (h : Wf s) (b : Int) : Wf (groundP s b).1 := (utf_wf h b).signs _
theorem Wf.step {s : E8} (h : Wf s) (b : Int) : Wf (stepP s b).1 := by
  unfold stepP
  repeat' split
  · exact h.escape b
  · exact h.csi b
  · exact h.text b
  · exact h.skip b
  · exact h.end_ b
  · exact h.ground b
theorem Wf.feed {s : E8} (h : Wf s) (bs : List Int) : Wf (feedP s bs).1 := by
  induction bs generalizing s with
  | nil => exact h
  | cons b bs ih => exact ih (h.step b)
theorem feed_append (s : E8) (xs ys : List Int) : feedP s (xs ++ ys) = ((feedP (feedP s xs).1 ys).1, (feedP s xs).2 ++ (feedP (feedP s xs).1 ys).2) := by
  induction xs generalizing s with
  | nil => rfl
  | cons b bs ih => simp only [List.cons_append, feedP, ih, List.append_assoc]
theorem feed_snoc (s : E8) (xs : List Int) (b : Int) : feedP s (xs ++ [b]) = ((stepP (feedP s xs).1 b).1, (feedP s xs).2 ++ (stepP (feedP s xs).1 b).2) := by
  rw [feed_append]; simp [feedP]
/-- How much a byte asks. -/
theorem sign_len (s : E8) (x : Int) : (signP s x).2.length ≤ 1 := by
  unfold signP ctl
  repeat' split
  all_goals simp
theorem signs_len (s : E8) (xs : List Int) : (signsP s xs).2.length ≤ xs.length := by
  induction xs generalizing s with
  | nil => exact Nat.le_refl _
  | cons x xs ih =>
    have h1 := sign_len s x
    have h2 := ih (signP s x).1
    simp only [signsP, List.length_append, List.length_cons]
    omega
theorem begin_len (b : Int) : (beginP b).2.length ≤ 1 := by
  unfold beginP
  repeat' split
  all_goals simp
theorem utf_len (n1 n2 n3 b : Int) : (utfP n1 n2 n3 b).2.length ≤ 2 := by
  have := begin_len b
  unfold utfP
  repeat' split
  all_goals (simp; try omega)
theorem step_len (s : E8) (b : Int) : (stepP s b).2.length ≤ 2 := by
  have h1 := utf_len s.n1 s.n2 s.n3 b
  have h2 := signs_len (utfE s b) (utfP s.n1 s.n2 s.n3 b).2
  unfold stepP
  repeat' split
  · unfold escapeP ctl
    repeat' split
    all_goals simp
  · unfold csiP ctl lastA
    repeat' split
    all_goals simp
  · simp
  · simp
  · simp
  · unfold groundP; omega
theorem feed_len (s : E8) (bs : List Int) : (feedP s bs).2.length ≤ 2 * bs.length := by
  induction bs generalizing s with
  | nil => exact Nat.le_refl _
  | cons b bs ih =>
    have h1 := step_len s b
    have h2 := ih (stepP s b).1
    simp only [feedP, List.length_append, List.length_cons]
    omega
end Go.Proofs.Ytiahfgcfgpakiaa.EscaVal


