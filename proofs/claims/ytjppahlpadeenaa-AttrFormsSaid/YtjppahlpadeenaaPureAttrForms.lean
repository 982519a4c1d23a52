/- AttrForms: what each parameter does to an attribute is as the row of parameters by hand says: for every number that chooses a row, without a condition. -/
import Derived.Test.YtjppahlpadeenaaPAttrFormsx3
import Derived.Test.YtjppahlpadeenaaWSized
namespace Go.Proofs.Ytjppahlpadeenaa
/-- The printed row names this lemma so. -/
abbrev PrintWords.sized_ints := @Go.Proofs.YtjppahlpadeenaaW.PrintWords.sized_ints
end Go.Proofs.Ytjppahlpadeenaa
namespace Go.Proofs.Ytjppahlpadeenaa.Pure
open Go.RowKit Go.Proofs.Ytjppahlpadeenaa.PAttrForms Go.Proofs.YtjppahlpadeenaaW.PrintWords Go.Proofs.YtjppahlpadeenaaW.PrintLast
/-! ### attributes as their five parts -/
def encA (b u t : Bool) (f k : Int) : Int := (if b then 1 else 0) + (if u then 2 else 0) + (if t then 4 else 0) + 16 * f + 256 * k
/-- The five parts of any attribute. -/
def prt (a : Int) : Bool × Bool × Bool × Int × Int := ((Go.bits .and .i64 a 1 != 0), (Go.bits .and .i64 a 2 != 0), (Go.bits .and .i64 a 4 != 0), mn (mx (Go.bits .and .i64 (a / 16) 15) 0) 8, mn (mx (Go.bits .and .i64 (a / 256) 15) 0) 8)
theorem parts_eq (a : Int) : attr_Parts.f a = some (prt a) := rfl
theorem held_range (n : Int) : 0 ≤ mn (mx n 0) 8 ∧ mn (mx n 0) 8 ≤ 8 := by
  unfold mn mx; constructor <;> (split <;> split <;> omega)
theorem prt_f (a : Int) : 0 ≤ (prt a).2.2.2.1 ∧ (prt a).2.2.2.1 ≤ 8 := held_range _
theorem prt_k (a : Int) : 0 ≤ (prt a).2.2.2.2 ∧ (prt a).2.2.2.2 ≤ 8 := held_range _
theorem make_all : ∀ (f k : Fin 9) (b u t : Bool), attr_Make.f b u t ((f.val : Nat) : Int) ((k.val : Nat) : Int) = some (encA b u t ((f.val : Nat) : Int) ((k.val : Nat) : Int)) := by decide +kernel
theorem prt_all : ∀ (f k : Fin 9) (b u t : Bool), prt (encA b u t ((f.val : Nat) : Int) ((k.val : Nat) : Int)) = (b, u, t, ((f.val : Nat) : Int), ((k.val : Nat) : Int)) := by decide +kernel
theorem make_enc (b u t : Bool) (f k : Int) (f0 : 0 ≤ f) (f8 : f ≤ 8) (k0 : 0 ≤ k) (k8 : k ≤ 8) : attr_Make.f b u t f k = some (encA b u t f k) := by
  have h := make_all ⟨f.toNat, by omega⟩ ⟨k.toNat, by omega⟩ b u t
  simpa only [Int.toNat_of_nonneg f0, Int.toNat_of_nonneg k0] using h
theorem prt_enc (b u t : Bool) (f k : Int) (f0 : 0 ≤ f) (f8 : f ≤ 8) (k0 : 0 ≤ k) (k8 : k ≤ 8) : prt (encA b u t f k) = (b, u, t, f, k) := by
  have h := prt_all ⟨f.toNat, by omega⟩ ⟨k.toNat, by omega⟩ b u t
  simpa only [Int.toNat_of_nonneg f0, Int.toNat_of_nonneg k0] using h
theorem wrap_small (n : Int) (h0 : -1000 ≤ n) (h1 : n ≤ 100000) : wrap64 n = n := by unfold wrap64; omega

/-- What a parameter does, on the parts. -/
def stepP (s : Bool × Bool × Bool × Int × Int) (n : Int) : Bool × Bool × Bool × Int × Int :=
  if n = -1 ∨ n = 0 then (false, false, false, 0, 0)
  else if n = 1 ∨ n = 22 then (n == 1, s.2.1, s.2.2.1, s.2.2.2.1, s.2.2.2.2)
  else if n = 4 ∨ n = 24 then (s.1, n == 4, s.2.2.1, s.2.2.2.1, s.2.2.2.2)
  else if n = 7 ∨ n = 27 then (s.1, s.2.1, n == 7, s.2.2.2.1, s.2.2.2.2)
  else if 30 ≤ n ∧ n ≤ 37 then (s.1, s.2.1, s.2.2.1, n - 29, s.2.2.2.2)
  else if n = 39 then (s.1, s.2.1, s.2.2.1, 0, s.2.2.2.2)
  else if 40 ≤ n ∧ n ≤ 47 then (s.1, s.2.1, s.2.2.1, s.2.2.2.1, n - 39)
  else if n = 49 then (s.1, s.2.1, s.2.2.1, s.2.2.2.1, 0)
  else s
def Good (s : Bool × Bool × Bool × Int × Int) : Prop := (0 ≤ s.2.2.2.1 ∧ s.2.2.2.1 ≤ 8) ∧ 0 ≤ s.2.2.2.2 ∧ s.2.2.2.2 ≤ 8
def encT (s : Bool × Bool × Bool × Int × Int) : Int := encA s.1 s.2.1 s.2.2.1 s.2.2.2.1 s.2.2.2.2
theorem prt_good (a : Int) : Good (prt a) := ⟨prt_f a, prt_k a⟩
theorem step_good {s : Bool × Bool × Bool × Int × Int} (n : Int) (h : Good s) : Good (stepP s n) := by
  obtain ⟨⟨h1, h2⟩, h3, h4⟩ := h
  unfold stepP Good
  repeat' split
  all_goals ((try dsimp only); omega)
theorem prt_encT {s : Bool × Bool × Bool × Int × Int} (h : Good s) : prt (encT s) = s := prt_enc _ _ _ _ _ h.1.1 h.1.2 h.2.1 h.2.2
theorem make_encT {s : Bool × Bool × Bool × Int × Int} (h : Good s) : attr_Make.f s.1 s.2.1 s.2.2.1 s.2.2.2.1 s.2.2.2.2 = some (encT s) := make_enc _ _ _ _ _ h.1.1 h.1.2 h.2.1 h.2.2
theorem make_as {b u t : Bool} {f k : Int} {s : Bool × Bool × Bool × Int × Int} (hs : (b, u, t, f, k) = s) (h : Good s) : attr_Make.f b u t f k = some (encT s) := by
  subst hs; exact make_encT h
def oneA (a n : Int) : Int := encT (stepP (prt a) n)
theorem one_eq (k : Nat) (a n : Int) : attr_one.f (k + 7) a n = some (oneA a n) := by
  have hg : Good (stepP (prt a) n) := step_good n (prt_good a)
  unfold oneA attr_one.f
  rw [parts_eq]
  simp only [Option.bind_some]
  generalize prt a = s at *
  by_cases e0 : n = -1
  · subst e0; rw [if_pos rfl]; simp only [attr_one.j0, if_true]; rfl
  rw [if_neg e0]
  simp only [attr_one.j0]
  by_cases e1 : n = 0
  · subst e1; rfl
  rw [if_neg (by simpa using e1)]
  by_cases e2 : n = 1
  · subst e2; rw [if_pos rfl]; simp only [attr_one.j1, if_true]; rw [make_as (by simp [stepP]) hg]; rfl
  rw [if_neg e2]; simp only [attr_one.j1]
  by_cases e3 : n = 22
  · subst e3; rw [if_pos (by decide), make_as (by simp [stepP]) hg]; rfl
  rw [if_neg (by simpa using e3)]
  by_cases e4 : n = 4
  · subst e4; rw [if_pos rfl]; simp only [attr_one.j2, if_true]; rw [make_as (by simp [stepP]) hg]; rfl
  rw [if_neg e4]; simp only [attr_one.j2]
  by_cases e5 : n = 24
  · subst e5; rw [if_pos (by decide), make_as (by simp [stepP]) hg]; rfl
  rw [if_neg (by simpa using e5)]
  by_cases e6 : n = 7
  · subst e6; rw [if_pos rfl]; simp only [attr_one.j3, if_true]; rw [make_as (by simp [stepP]) hg]; rfl
  rw [if_neg e6]; simp only [attr_one.j3]
  by_cases e7 : n = 27
  · subst e7; rw [if_pos (by decide), make_as (by simp [stepP]) hg]; rfl
  rw [if_neg (by simpa using e7)]
  have hne1 : ¬ (n = -1 ∨ n = 0) := by omega
  have hne2 : ¬ (n = 1 ∨ n = 22) := by omega
  have hne3 : ¬ (n = 4 ∨ n = 24) := by omega
  have hne4 : ¬ (n = 7 ∨ n = 27) := by omega
  by_cases e8 : 30 ≤ n ∧ n ≤ 37
  · have hs : stepP s n = (s.1, s.2.1, s.2.2.1, n - 29, s.2.2.2.2) := by unfold stepP; rw [if_neg hne1, if_neg hne2, if_neg hne3, if_neg hne4, if_pos e8]
    rw [if_pos (show n ≥ 30 from e8.1)]; simp only [attr_one.j4]
    rw [if_pos (decide_eq_true e8.2), wrap_small _ (by omega) (by omega), make_as hs.symm hg]; rfl
  have g8 : ∀ {α : Type} (x y z : α), (if n ≥ 30 then (if decide (n ≤ 37) = true then x else y) else (if false = true then z else y)) = y := by
    intro α x y z
    by_cases h : n ≥ 30
    · rw [if_pos h, if_neg (by simp; omega)]
    · rw [if_neg h, if_neg (by simp)]
  simp only [attr_one.j4]
  rw [g8]
  by_cases e9 : n = 39
  · have hs : stepP s n = (s.1, s.2.1, s.2.2.1, 0, s.2.2.2.2) := by unfold stepP; rw [if_neg hne1, if_neg hne2, if_neg hne3, if_neg hne4, if_neg e8, if_pos e9]
    rw [if_pos e9, make_as hs.symm hg]; rfl
  rw [if_neg e9]
  by_cases e10 : 40 ≤ n ∧ n ≤ 47
  · have hs : stepP s n = (s.1, s.2.1, s.2.2.1, s.2.2.2.1, n - 39) := by unfold stepP; rw [if_neg hne1, if_neg hne2, if_neg hne3, if_neg hne4, if_neg e8, if_neg e9, if_pos e10]
    rw [if_pos (show n ≥ 40 from e10.1)]; simp only [attr_one.j5]
    rw [if_pos (decide_eq_true e10.2), wrap_small _ (by omega) (by omega), make_as hs.symm hg]; rfl
  have g10 : ∀ {α : Type} (x y z : α), (if n ≥ 40 then (if decide (n ≤ 47) = true then x else y) else (if false = true then z else y)) = y := by
    intro α x y z
    by_cases h : n ≥ 40
    · rw [if_pos h, if_neg (by simp; omega)]
    · rw [if_neg h, if_neg (by simp)]
  simp only [attr_one.j5]
  rw [g10]
  by_cases e11 : n = 49
  · have hs : stepP s n = (s.1, s.2.1, s.2.2.1, s.2.2.2.1, 0) := by unfold stepP; rw [if_neg hne1, if_neg hne2, if_neg hne3, if_neg hne4, if_neg e8, if_neg e9, if_neg e10, if_pos e11]
    rw [if_pos e11, make_as hs.symm hg]; rfl
  · have hs : stepP s n = (s.1, s.2.1, s.2.2.1, s.2.2.2.1, s.2.2.2.2) := by unfold stepP; rw [if_neg hne1, if_neg hne2, if_neg hne3, if_neg hne4, if_neg e8, if_neg e9, if_neg e10, if_neg e11]
    rw [if_neg e11, make_as hs.symm hg]; rfl

/-- Parameters, one behind the other. -/
def appA (a : Int) (l : List Int) : Int := if l = [] then 0 else l.foldl oneA a
theorem apply_loop (l : List Int) (hl : l.length ≤ 1000) (d : Nat) : ∀ (k : Nat) (x i : Int), 0 ≤ i → (l.length : Int) - i = d → d < k →
    attr_Apply.l0 (k + 8) x l (l.length : Int) i = some ((l.drop i.toNat).foldl oneA x) := by
  induction d with
  | zero =>
    intro k x i h0 hd hk
    have hx : l.drop i.toNat = [] := List.drop_eq_nil_of_le (by omega)
    rw [attr_Apply.l0, if_neg (by omega), hx]; rfl
  | succ d ih =>
    intro k x i h0 hd hk
    obtain ⟨k, rfl⟩ : ∃ m, k = m + 1 := ⟨k - 1, by omega⟩
    have hlt : i < (l.length : Int) := by omega
    have hr : rd l i = l[i.toNat]'(by omega) := by unfold rd; rw [List.getD_eq_getElem?_getD, List.getElem?_eq_getElem (by omega)]; rfl
    have e : l.drop i.toNat = rd l i :: l.drop (i + 1).toNat := by
      rw [hr, show (i + 1).toNat = i.toNat + 1 from by omega]; exact List.drop_eq_getElem_cons (by omega)
    rw [show k + 1 + 8 = (k + 8) + 1 from rfl, attr_Apply.l0, if_pos hlt, if_pos h0, if_pos hlt, show k + 8 = (k + 1) + 7 from rfl, one_eq]
    simp only [Option.bind_some]
    rw [wrap_small _ (by omega) (by omega), show k + 1 + 7 = k + 8 from rfl, ih k _ (i + 1) (by omega) (by omega) (by omega), e]
    rfl
theorem apply_eq (a : Int) (l : List Int) (hl : l.length ≤ 1000) (k : Nat) (hk : l.length + 9 ≤ k) : attr_Apply.f k a l = some (appA a l) := by
  unfold attr_Apply.f appA
  by_cases h : l = []
  · subst h; rfl
  · have : (l.length : Int) ≠ 0 := by cases l <;> simp_all; omega
    rw [if_neg this, if_neg h]
    obtain ⟨m, rfl⟩ : ∃ m, k = m + 8 := ⟨k - 8, by omega⟩
    rw [apply_loop l hl l.length m a 0 (by omega) (by omega) (by omega)]; rfl
theorem and_range (m : Nat) (hm : m < 63) (a : Int) : 0 ≤ Go.bits .and .i64 a ((2 ^ m - 1 : Nat) : Int) ∧ Go.bits .and .i64 a ((2 ^ m - 1 : Nat) : Int) ≤ ((2 ^ m - 1 : Nat) : Int) := by
  have hp : 2 ^ m ≤ 2 ^ 62 := Nat.pow_le_pow_right (by omega) (by omega)
  have h1 : 1 ≤ 2 ^ m := Nat.one_le_two_pow
  have hb : (BitVec.ofInt 64 ((2 ^ m - 1 : Nat) : Int)).toNat = 2 ^ m - 1 := by
    rw [BitVec.ofInt_natCast, BitVec.toNat_ofNat]; exact Nat.mod_eq_of_lt (by omega)
  have hx : (BitVec.ofInt 64 a).toNat &&& (2 ^ m - 1) ≤ 2 ^ m - 1 := Nat.and_le_right
  have e : Go.bits .and .i64 a ((2 ^ m - 1 : Nat) : Int) = (((BitVec.ofInt 64 a).toNat &&& (2 ^ m - 1) : Nat) : Int) := by
    show IntKind.i64.wrap ((BitVec.ofInt 64 a &&& BitVec.ofInt 64 ((2 ^ m - 1 : Nat) : Int)).toNat : Int) = _
    rw [BitVec.toNat_and, hb, IntKind.wrap_i64]
    omega
  rw [e]; omega
theorem and7 (a : Int) : 0 ≤ Go.bits .and .i64 a 7 ∧ Go.bits .and .i64 a 7 ≤ 7 := and_range 3 (by omega) a
theorem awake_eq (k : Nat) (hk : 20 ≤ k) : polyptychlaw3_awake.f k = some true := by
  unfold polyptychlaw3_awake.f
  rw [apply_eq _ _ (by decide) k (by simp; omega)]
  simp only [Option.bind_some, parts_eq]
  rw [apply_eq _ _ (by decide) k (by simp; omega)]
  simp only [Option.bind_some]
  rw [apply_eq _ _ (by decide) k (by simp; omega)]
  decide +kernel

/-- The rows of the law, as its text lists them. -/
def forms : List S23 := [(⟨7, ([] : List Int), 0⟩ : S23), (⟨7, (([0] : List Int)), 0⟩ : S23), (⟨7, (([(-1)] : List Int)), 0⟩ : S23), (⟨0, (([1] : List Int)), 1⟩ : S23), (⟨0, (([4] : List Int)), 2⟩ : S23), (⟨0, (([7] : List Int)), 4⟩ : S23), (⟨7, (([22] : List Int)), 6⟩ : S23), (⟨7, (([24] : List Int)), 5⟩ : S23), (⟨7, (([27] : List Int)), 3⟩ : S23), (⟨0, (([30] : List Int)), 16⟩ : S23), (⟨0, (([37] : List Int)), 128⟩ : S23), (⟨0, (([40] : List Int)), 256⟩ : S23), (⟨0, (([47] : List Int)), 2048⟩ : S23), (⟨255, (([39] : List Int)), 7⟩ : S23), (⟨2048, (([49] : List Int)), 0⟩ : S23), (⟨0, (([38] : List Int)), 0⟩ : S23), (⟨0, (([48, 5, 3] : List Int)), 0⟩ : S23), (⟨0, (([1, 0, 4] : List Int)), 2⟩ : S23), (⟨0, (([31, 1, 44] : List Int)), 1313⟩ : S23), (⟨3, (([2, 3, 5, 6, 8, 9] : List Int)), 3⟩ : S23), (⟨0, (([90, 100, 65535] : List Int)), 0⟩ : S23), (⟨16, (([31] : List Int)), 32⟩ : S23)]
theorem forms_all : ∀ x ∈ forms, x.f1.length ≤ 100 ∧ appA x.f0 x.f1 = x.f2 := by decide +kernel
theorem mod_range (a : Int) (n : Int) (h : 0 < n) (h0 : 0 ≤ a) : 0 ≤ Int.tmod a n ∧ Int.tmod a n < n := by
  rw [Int.tmod_eq_emod_of_nonneg h0]
  exact ⟨Int.emod_nonneg _ (by omega), Int.emod_lt_of_pos _ h⟩
theorem AttrForms : polyptychlaw3_AttrForms.Pure := by
  intro a _
  refine ⟨400, ?_⟩
  show (some forms).bind _ = _
  simp only [Option.bind_some]
  have hl : (forms.length : Int) = 22 := rfl
  have hm := and_range 8 (by omega) a
  have hi := mod_range (Go.bits .and .i64 a 255) 22 (by omega) hm.1
  rw [hl]
  generalize Int.tmod (Go.bits .and .i64 a 255) 22 = i at *
  have hmem : rd_T23 forms i ∈ forms := by
    unfold rd_T23
    have hlt : i.toNat < forms.length := by have : forms.length = 22 := rfl; omega
    rw [List.getD_eq_getElem?_getD, List.getElem?_eq_getElem hlt]
    exact List.getElem_mem hlt
  obtain ⟨h1, h2⟩ := forms_all _ hmem
  rw [if_neg (by omega), if_pos hi.1, if_pos hi.2, apply_eq _ _ (by omega) _ (by omega)]
  simp only [Option.bind_some]
  rw [h2, if_pos rfl, awake_eq _ (by omega)]; rfl

end Go.Proofs.Ytjppahlpadeenaa.Pure
