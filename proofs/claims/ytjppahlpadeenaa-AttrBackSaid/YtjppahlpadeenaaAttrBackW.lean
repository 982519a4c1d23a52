/- The walk of AttrBack: whatever parts and parameter: the law answers true, and nothing that was there has turned. -/
import Derived.Test.YtjppahlpadeenaaKit
import Derived.Test.YtjppahlpadeenaaPAttrBackx2
namespace Go.Proofs.Ytjppahlpadeenaa.AttrBackW
open Go.RowKit Go.Proofs.YtjppahlpadeenaaKit Go.Proofs.Ytjppahlpadeenaa.PAttrBack Go.Proofs.YtjppahlpadeenaaW.PrintWords Go.Proofs.YtjppahlpadeenaaW.PrintLast
set_option linter.unusedVariables false
set_option linter.unusedSimpArgs false
/-! ### attributes as their five parts -/
def encA (b u t : Bool) (f k : Int) : Int := (if b then 1 else 0) + (if u then 2 else 0) + (if t then 4 else 0) + 16 * f + 256 * k
/-- The five parts of any attribute. -/
def prt (a : Int) : Bool × Bool × Bool × Int × Int := ((Go.bits .and .i64 a 1 != 0), (Go.bits .and .i64 a 2 != 0), (Go.bits .and .i64 a 4 != 0), mn (mx (Go.bits .and .i64 (a / 16) 15) 0) 8, mn (mx (Go.bits .and .i64 (a / 256) 15) 0) 8)
theorem parts_eq (a : Int) : attr_Parts.f a = some (prt a) := rfl
theorem held_range (n : Int) : 0 ≤ mn (mx n 0) 8 ∧ mn (mx n 0) 8 ≤ 8 := by
  unfold mn mx; constructor <;> (split <;> split <;> omega)
theorem prt_f (a : Int) : 0 ≤ (prt a).2.2.2.1 ∧ (prt a).2.2.2.1 ≤ 8 := held_range _
theorem prt_k (a : Int) : 0 ≤ (prt a).2.2.2.2 ∧ (prt a).2.2.2.2 ≤ 8 := held_range _
theorem make_all : ∀ (f k : Fin 9) (b u t : Bool), attr_Make.f b u t ((f.val : Nat) : Int) ((k.val : Nat) : Int) = some (encA b u t ((f.val : Nat) : Int) ((k.val : Nat) : Int)) := by decide +kernel
theorem prt_all : ∀ (f k : Fin 9) (b u t : Bool), prt (encA b u t ((f.val : Nat) : Int) ((k.val : Nat) : Int)) = (b, u, t, ((f.val : Nat) : Int), ((k.val : Nat) : Int)) := by decide +kernel
theorem make_enc (b u t : Bool) (f k : Int) (f0 : 0 ≤ f) (f8 : f ≤ 8) (k0 : 0 ≤ k) (k8 : k ≤ 8) : attr_Make.f b u t f k = some (encA b u t f k) := by
  have h := make_all ⟨f.toNat, by omega⟩ ⟨k.toNat, by omega⟩ b u t
  simpa only [Int.toNat_of_nonneg f0, Int.toNat_of_nonneg k0] using h
theorem prt_enc (b u t : Bool) (f k : Int) (f0 : 0 ≤ f) (f8 : f ≤ 8) (k0 : 0 ≤ k) (k8 : k ≤ 8) : prt (encA b u t f k) = (b, u, t, f, k) := by
  have h := prt_all ⟨f.toNat, by omega⟩ ⟨k.toNat, by omega⟩ b u t
  simpa only [Int.toNat_of_nonneg f0, Int.toNat_of_nonneg k0] using h
theorem wrap_small (n : Int) (h0 : -1000 ≤ n) (h1 : n ≤ 100000) : wrap64 n = n := by unfold wrap64; omega

/-- What a parameter does, on the parts. -/
def stepP (s : Bool × Bool × Bool × Int × Int) (n : Int) : Bool × Bool × Bool × Int × Int :=
  if n = -1 ∨ n = 0 then (false, false, false, 0, 0)
  else if n = 1 ∨ n = 22 then (n == 1, s.2.1, s.2.2.1, s.2.2.2.1, s.2.2.2.2)
  else if n = 4 ∨ n = 24 then (s.1, n == 4, s.2.2.1, s.2.2.2.1, s.2.2.2.2)
  else if n = 7 ∨ n = 27 then (s.1, s.2.1, n == 7, s.2.2.2.1, s.2.2.2.2)
  else if 30 ≤ n ∧ n ≤ 37 then (s.1, s.2.1, s.2.2.1, n - 29, s.2.2.2.2)
  else if n = 39 then (s.1, s.2.1, s.2.2.1, 0, s.2.2.2.2)
  else if 40 ≤ n ∧ n ≤ 47 then (s.1, s.2.1, s.2.2.1, s.2.2.2.1, n - 39)
  else if n = 49 then (s.1, s.2.1, s.2.2.1, s.2.2.2.1, 0)
  else s
def Good (s : Bool × Bool × Bool × Int × Int) : Prop := (0 ≤ s.2.2.2.1 ∧ s.2.2.2.1 ≤ 8) ∧ 0 ≤ s.2.2.2.2 ∧ s.2.2.2.2 ≤ 8
def encT (s : Bool × Bool × Bool × Int × Int) : Int := encA s.1 s.2.1 s.2.2.1 s.2.2.2.1 s.2.2.2.2
theorem prt_good (a : Int) : Good (prt a) := ⟨prt_f a, prt_k a⟩
theorem step_good {s : Bool × Bool × Bool × Int × Int} (n : Int) (h : Good s) : Good (stepP s n) := by
  obtain ⟨⟨h1, h2⟩, h3, h4⟩ := h
  unfold stepP Good
  repeat' split
  all_goals ((try dsimp only); omega)
theorem prt_encT {s : Bool × Bool × Bool × Int × Int} (h : Good s) : prt (encT s) = s := prt_enc _ _ _ _ _ h.1.1 h.1.2 h.2.1 h.2.2
theorem make_encT {s : Bool × Bool × Bool × Int × Int} (h : Good s) : attr_Make.f s.1 s.2.1 s.2.2.1 s.2.2.2.1 s.2.2.2.2 = some (encT s) := make_enc _ _ _ _ _ h.1.1 h.1.2 h.2.1 h.2.2
theorem make_as {b u t : Bool} {f k : Int} {s : Bool × Bool × Bool × Int × Int} (hs : (b, u, t, f, k) = s) (h : Good s) : attr_Make.f b u t f k = some (encT s) := by
  subst hs; exact make_encT h
def oneA (a n : Int) : Int := encT (stepP (prt a) n)
theorem one_eq (k : Nat) (a n : Int) : attr_one.f (k + 7) a n = some (oneA a n) := by
  have hg : Good (stepP (prt a) n) := step_good n (prt_good a)
  unfold oneA attr_one.f
  rw [parts_eq]
  simp only [Option.bind_some]
  generalize prt a = s at *
  by_cases e0 : n = -1
  · subst e0; rw [if_pos rfl]; simp only [attr_one.j0, if_true]; rfl
  rw [if_neg e0]
  simp only [attr_one.j0]
  by_cases e1 : n = 0
  · subst e1; rfl
  rw [if_neg (by simpa using e1)]
  by_cases e2 : n = 1
  · subst e2; rw [if_pos rfl]; simp only [attr_one.j1, if_true]; rw [make_as (by simp [stepP]) hg]; rfl
  rw [if_neg e2]; simp only [attr_one.j1]
  by_cases e3 : n = 22
  · subst e3; rw [if_pos (by decide), make_as (by simp [stepP]) hg]; rfl
  rw [if_neg (by simpa using e3)]
  by_cases e4 : n = 4
  · subst e4; rw [if_pos rfl]; simp only [attr_one.j2, if_true]; rw [make_as (by simp [stepP]) hg]; rfl
  rw [if_neg e4]; simp only [attr_one.j2]
  by_cases e5 : n = 24
  · subst e5; rw [if_pos (by decide), make_as (by simp [stepP]) hg]; rfl
  rw [if_neg (by simpa using e5)]
  by_cases e6 : n = 7
  · subst e6; rw [if_pos rfl]; simp only [attr_one.j3, if_true]; rw [make_as (by simp [stepP]) hg]; rfl
  rw [if_neg e6]; simp only [attr_one.j3]
  by_cases e7 : n = 27
  · subst e7; rw [if_pos (by decide), make_as (by simp [stepP]) hg]; rfl
  rw [if_neg (by simpa using e7)]
  have hne1 : ¬ (n = -1 ∨ n = 0) := by omega
  have hne2 : ¬ (n = 1 ∨ n = 22) := by omega
  have hne3 : ¬ (n = 4 ∨ n = 24) := by omega
  have hne4 : ¬ (n = 7 ∨ n = 27) := by omega
  by_cases e8 : 30 ≤ n ∧ n ≤ 37
  · have hs : stepP s n = (s.1, s.2.1, s.2.2.1, n - 29, s.2.2.2.2) := by unfold stepP; rw [if_neg hne1, if_neg hne2, if_neg hne3, if_neg hne4, if_pos e8]
    rw [if_pos (show n ≥ 30 from e8.1)]; simp only [attr_one.j4]
    rw [if_pos (decide_eq_true e8.2), wrap_small _ (by omega) (by omega), make_as hs.symm hg]; rfl
  have g8 : ∀ {α : Type} (x y z : α), (if n ≥ 30 then (if decide (n ≤ 37) = true then x else y) else (if false = true then z else y)) = y := by
    intro α x y z
    by_cases h : n ≥ 30
    · rw [if_pos h, if_neg (by simp; omega)]
    · rw [if_neg h, if_neg (by simp)]
  simp only [attr_one.j4]
  rw [g8]
  by_cases e9 : n = 39
  · have hs : stepP s n = (s.1, s.2.1, s.2.2.1, 0, s.2.2.2.2) := by unfold stepP; rw [if_neg hne1, if_neg hne2, if_neg hne3, if_neg hne4, if_neg e8, if_pos e9]
    rw [if_pos e9, make_as hs.symm hg]; rfl
  rw [if_neg e9]
  by_cases e10 : 40 ≤ n ∧ n ≤ 47
  · have hs : stepP s n = (s.1, s.2.1, s.2.2.1, s.2.2.2.1, n - 39) := by unfold stepP; rw [if_neg hne1, if_neg hne2, if_neg hne3, if_neg hne4, if_neg e8, if_neg e9, if_pos e10]
    rw [if_pos (show n ≥ 40 from e10.1)]; simp only [attr_one.j5]
    rw [if_pos (decide_eq_true e10.2), wrap_small _ (by omega) (by omega), make_as hs.symm hg]; rfl
  have g10 : ∀ {α : Type} (x y z : α), (if n ≥ 40 then (if decide (n ≤ 47) = true then x else y) else (if false = true then z else y)) = y := by
    intro α x y z
    by_cases h : n ≥ 40
    · rw [if_pos h, if_neg (by simp; omega)]
    · rw [if_neg h, if_neg (by simp)]
  simp only [attr_one.j5]
  rw [g10]
  by_cases e11 : n = 49
  · have hs : stepP s n = (s.1, s.2.1, s.2.2.1, s.2.2.2.1, 0) := by unfold stepP; rw [if_neg hne1, if_neg hne2, if_neg hne3, if_neg hne4, if_neg e8, if_neg e9, if_neg e10, if_pos e11]
    rw [if_pos e11, make_as hs.symm hg]; rfl
  · have hs : stepP s n = (s.1, s.2.1, s.2.2.1, s.2.2.2.1, s.2.2.2.2) := by unfold stepP; rw [if_neg hne1, if_neg hne2, if_neg hne3, if_neg hne4, if_neg e8, if_neg e9, if_neg e10, if_neg e11]
    rw [if_neg e11, make_as hs.symm hg]; rfl

/-- Parameters, one behind the other. -/
def appA (a : Int) (l : List Int) : Int := if l = [] then 0 else l.foldl oneA a
theorem apply_loop (l : List Int) (hl : l.length ≤ 1000) (d : Nat) : ∀ (k : Nat) (x i : Int), 0 ≤ i → (l.length : Int) - i = d → d < k →
    attr_Apply.l0 (k + 8) x l (l.length : Int) i = some ((l.drop i.toNat).foldl oneA x) := by
  induction d with
  | zero =>
    intro k x i h0 hd hk
    have hx : l.drop i.toNat = [] := List.drop_eq_nil_of_le (by omega)
    rw [attr_Apply.l0, if_neg (by omega), hx]; rfl
  | succ d ih =>
    intro k x i h0 hd hk
    obtain ⟨k, rfl⟩ : ∃ m, k = m + 1 := ⟨k - 1, by omega⟩
    have hlt : i < (l.length : Int) := by omega
    have hr : rd l i = l[i.toNat]'(by omega) := by unfold rd; rw [List.getD_eq_getElem?_getD, List.getElem?_eq_getElem (by omega)]; rfl
    have e : l.drop i.toNat = rd l i :: l.drop (i + 1).toNat := by
      rw [hr, show (i + 1).toNat = i.toNat + 1 from by omega]; exact List.drop_eq_getElem_cons (by omega)
    rw [show k + 1 + 8 = (k + 8) + 1 from rfl, attr_Apply.l0, if_pos hlt, if_pos h0, if_pos hlt, show k + 8 = (k + 1) + 7 from rfl, one_eq]
    simp only [Option.bind_some]
    rw [wrap_small _ (by omega) (by omega), show k + 1 + 7 = k + 8 from rfl, ih k _ (i + 1) (by omega) (by omega) (by omega), e]
    rfl
theorem apply_eq (a : Int) (l : List Int) (hl : l.length ≤ 1000) (k : Nat) (hk : l.length + 9 ≤ k) : attr_Apply.f k a l = some (appA a l) := by
  unfold attr_Apply.f appA
  by_cases h : l = []
  · subst h; rfl
  · have : (l.length : Int) ≠ 0 := by cases l <;> simp_all; omega
    rw [if_neg this, if_neg h]
    obtain ⟨m, rfl⟩ : ∃ m, k = m + 8 := ⟨k - 8, by omega⟩
    rw [apply_loop l hl l.length m a 0 (by omega) (by omega) (by omega)]; rfl
theorem and_range (m : Nat) (hm : m < 63) (a : Int) : 0 ≤ Go.bits .and .i64 a ((2 ^ m - 1 : Nat) : Int) ∧ Go.bits .and .i64 a ((2 ^ m - 1 : Nat) : Int) ≤ ((2 ^ m - 1 : Nat) : Int) := by
  have hp : 2 ^ m ≤ 2 ^ 62 := Nat.pow_le_pow_right (by omega) (by omega)
  have h1 : 1 ≤ 2 ^ m := Nat.one_le_two_pow
  have hb : (BitVec.ofInt 64 ((2 ^ m - 1 : Nat) : Int)).toNat = 2 ^ m - 1 := by
    rw [BitVec.ofInt_natCast, BitVec.toNat_ofNat]; exact Nat.mod_eq_of_lt (by omega)
  have hx : (BitVec.ofInt 64 a).toNat &&& (2 ^ m - 1) ≤ 2 ^ m - 1 := Nat.and_le_right
  have e : Go.bits .and .i64 a ((2 ^ m - 1 : Nat) : Int) = (((BitVec.ofInt 64 a).toNat &&& (2 ^ m - 1) : Nat) : Int) := by
    show IntKind.i64.wrap ((BitVec.ofInt 64 a &&& BitVec.ofInt 64 ((2 ^ m - 1 : Nat) : Int)).toNat : Int) = _
    rw [BitVec.toNat_and, hb, IntKind.wrap_i64]
    omega
  rw [e]; omega
theorem and7 (a : Int) : 0 ≤ Go.bits .and .i64 a 7 ∧ Go.bits .and .i64 a 7 ≤ 7 := and_range 3 (by omega) a
theorem awake_eq (k : Nat) (hk : 20 ≤ k) : polyptychlaw3_awake.f k = some true := by
  unfold polyptychlaw3_awake.f
  rw [apply_eq _ _ (by decide) k (by simp; omega)]
  simp only [Option.bind_some, parts_eq]
  rw [apply_eq _ _ (by decide) k (by simp; omega)]
  simp only [Option.bind_some]
  rw [apply_eq _ _ (by decide) k (by simp; omega)]
  decide +kernel
theorem and255 (a : Int) : 0 ≤ Go.bits .and .i64 a 255 ∧ Go.bits .and .i64 a 255 ≤ 255 := and_range 8 (by omega) a
theorem app_two {s : Bool × Bool × Bool × Int × Int} (hs : Good s) (m n : Int) : appA (encT s) [m, n] = encT (stepP (stepP s m) n) := by
  simp [appA, oneA, prt_encT hs, prt_encT (step_good m hs)]
theorem app_one {s : Bool × Bool × Bool × Int × Int} (hs : Good s) (m : Int) : appA (encT s) [m] = encT (stepP s m) := by
  simp [appA, oneA, prt_encT hs]
theorem step_twice (s : Bool × Bool × Bool × Int × Int) (n : Int) : stepP (stepP s n) n = stepP s n := by
  unfold stepP
  by_cases h1 : n = -1 ∨ n = 0
  · simp only [if_pos h1]
  by_cases h2 : n = 1 ∨ n = 22
  · simp only [if_neg h1, if_pos h2]
  by_cases h3 : n = 4 ∨ n = 24
  · simp only [if_neg h1, if_neg h2, if_pos h3]
  by_cases h4 : n = 7 ∨ n = 27
  · simp only [if_neg h1, if_neg h2, if_neg h3, if_pos h4]
  by_cases h5 : 30 ≤ n ∧ n ≤ 37
  · simp only [if_neg h1, if_neg h2, if_neg h3, if_neg h4, if_pos h5]
  by_cases h6 : n = 39
  · simp only [if_neg h1, if_neg h2, if_neg h3, if_neg h4, if_neg h5, if_pos h6]
  by_cases h7 : 40 ≤ n ∧ n ≤ 47
  · simp only [if_neg h1, if_neg h2, if_neg h3, if_neg h4, if_neg h5, if_neg h6, if_pos h7]
  by_cases h8 : n = 49
  · simp only [if_neg h1, if_neg h2, if_neg h3, if_neg h4, if_neg h5, if_neg h6, if_neg h7, if_pos h8]
  · simp only [if_neg h1, if_neg h2, if_neg h3, if_neg h4, if_neg h5, if_neg h6, if_neg h7, if_neg h8]
theorem step_zero (s : Bool × Bool × Bool × Int × Int) : stepP s 0 = (false, false, false, 0, 0) := rfl
theorem step_minus (s : Bool × Bool × Bool × Int × Int) : stepP s (-1) = (false, false, false, 0, 0) := rfl

theorem lit1 (W : World) (x : Int) : Kd.C (Kd.int .i64) (W.alloc (.cells #[.int .i64 x] 3)) (some ⟨W.heap.size, 0, none⟩) [x].length [x] := by
  refine Kd.C_of_reads (d := (0 : Int)) (h1 := fun _ => rfl) ⟨rfl, by simp, fun _ => ⟨_, rfl, fun i hi => ?_⟩⟩
  have h0 : i = 0 := by simp at hi; omega
  subst h0
  rw [add_plain]
  exact (bs_cell (bs_new rfl) 0).trans rfl
theorem lit2 (W : World) (x y : Int) : Kd.C (Kd.int .i64) (W.alloc (.cells #[.int .i64 x, .int .i64 y] 3)) (some ⟨W.heap.size, 0, none⟩) [x, y].length [x, y] := by
  refine Kd.C_of_reads (d := (0 : Int)) (h1 := fun _ => rfl) ⟨rfl, by simp, fun _ => ⟨_, rfl, fun i hi => ?_⟩⟩
  have h0 : i = 0 ∨ i = 1 := by simp at hi; omega
  rcases h0 with rfl | rfl
  · rw [add_plain]; exact (bs_cell (bs_new rfl) 0).trans rfl
  · rw [add_plain]; exact (bs_cell (bs_new rfl) 1).trans rfl
theorem one_call (a x r : Int) (h : appA a [x] = r) (W : World) : Calls Try.prog 7 #[.int .i64 a, .slice (some ⟨W.heap.size, 0, none⟩) 1 1] (W.alloc (.cells #[.int .i64 x] 3)) fun e w' => e = .returned (.int .i64 r) ∧ Below (W.heap.size + 1) (W.alloc (.cells #[.int .i64 x] 3)) w' :=
  (attr_Apply.calls 200 a _ 1 [x] r _ (lit1 W x) (by simp) (by rw [apply_eq _ _ (by simp) _ (by simp), h])).mono fun e w' ⟨h1, h2⟩ => ⟨h1, by simpa using h2⟩
theorem two_call (a x y r : Int) (h : appA a [x, y] = r) (W : World) : Calls Try.prog 7 #[.int .i64 a, .slice (some ⟨W.heap.size, 0, none⟩) 2 2] (W.alloc (.cells #[.int .i64 x, .int .i64 y] 3)) fun e w' => e = .returned (.int .i64 r) ∧ Below (W.heap.size + 1) (W.alloc (.cells #[.int .i64 x, .int .i64 y] 3)) w' :=
  (attr_Apply.calls 200 a _ 2 [x, y] r _ (lit2 W x y) (by simp) (by rw [apply_eq _ _ (by simp) _ (by simp), h])).mono fun e w' ⟨h1, h2⟩ => ⟨h1, by simpa using h2⟩
/-- Is the parameter one that the law calls known, or does it turn nothing? -/
def Tells (kb : Bool) (A X : Int) : Prop := kb = true ∨ X = A
theorem be_one {w W W1 : World} {o : Obj} (hb : Below (W.heap.size + 1) (W.alloc o) W1) (h : Below w.heap.size w W) : Below w.heap.size w W1 :=
  (be_alloc h h.size).trans (hb.mono (by have := h.size; omega))
set_option maxHeartbeats 8000000 in
set_option maxRecDepth 100000 in
theorem walk (b u t : Bool) (f0 k0 n0 : Int) (w : World) (w3 : (Lit.int .i64 f0).wf = true) (w4 : (Lit.int .i64 k0).wf = true) (w5 : (Lit.int .i64 n0).wf = true) :
    Calls Try.prog 6 #[.bool b, .bool u, .bool t, .int .i64 f0, .int .i64 k0, .int .i64 n0] w fun e w' => e = .returned (.bool true) ∧ Below w.heap.size w w' := by
  obtain ⟨f1, f2⟩ := and7 f0
  obtain ⟨k1, k2⟩ := and7 k0
  obtain ⟨n1, n2⟩ := and255 n0
  obtain ⟨f, hf⟩ : ∃ f, Go.bits .and .i64 f0 7 = f := ⟨_, rfl⟩
  obtain ⟨g, hg⟩ : ∃ g, Go.bits .and .i64 k0 7 = g := ⟨_, rfl⟩
  obtain ⟨n, hn⟩ : ∃ n, Go.bits .and .i64 n0 255 = n := ⟨_, rfl⟩
  rw [hf] at f1 f2
  rw [hg] at k1 k2
  rw [hn] at n1 n2
  have hs : Good (b, u, t, f, g + 1) := by unfold Good; dsimp only; omega
  have hs2 := step_good n hs
  obtain ⟨A, hA⟩ : ∃ A, encT (b, u, t, f, g + 1) = A := ⟨_, rfl⟩
  obtain ⟨X, hX⟩ : ∃ X, encT (stepP (b, u, t, f, g + 1) n) = X := ⟨_, rfl⟩
  obtain ⟨Y, hY⟩ : ∃ Y, encT (stepP (stepP (b, u, t, f, g + 1) n) 41) = Y := ⟨_, rfl⟩
  have e1 : appA A [n] = X := by rw [← hA, app_one hs, hX]
  have e2 : appA X [n] = X := by rw [← hX, app_one hs2, step_twice]
  have e3 : appA A [n, 0] = 0 := by rw [← hA, app_two hs, step_zero]; rfl
  have e4 : appA A [-1] = 0 := by rw [← hA, app_one hs, step_minus]; rfl
  have e5 : appA A [n, 41] = Y := by rw [← hA, app_two hs, hY]
  have e6 : appA X [41] = Y := by rw [← hX, app_one hs2, hY]
  have hmake : attr_Make.f b u t f (g + 1) = some A := by rw [make_encT (s := (b, u, t, f, g + 1)) hs, hA]
  have hparts : attr_Parts.f A = some (b, u, t, f, g + 1) := by rw [parts_eq, ← hA, prt_encT hs]
  have hk : ¬ (n = -1 ∨ n = 0) → ¬ (n = 1 ∨ n = 22) → ¬ (n = 4 ∨ n = 24) → ¬ (n = 7 ∨ n = 27) → ¬ (30 ≤ n ∧ n ≤ 37) → ¬ n = 39 → ¬ (40 ≤ n ∧ n ≤ 47) → ¬ n = 49 → X = A := by
    intro h1 h2 h3 h4 h5 h6 h7 h8
    rw [← hX, ← hA]
    unfold stepP
    rw [if_neg h1, if_neg h2, if_neg h3, if_neg h4, if_neg h5, if_neg h6, if_neg h7, if_neg h8]
  have H1 := hide (one_call A n X e1); have H2 := hide (one_call X n X e2); have H3 := hide (two_call A n 0 0 e3); have H4 := hide (one_call A (-1) 0 e4); have H5 := hide (two_call A n 41 Y e5); have H6 := hide (one_call X 41 Y e6)
  have HM := hide hmake; have HP := hide hparts; have HK := hide hk
  clear e1 e2 e3 e4 e5 e6 hmake hparts hk hs hs2 hA hX hY w3 w4 w5
  go_enter Try.func6, Try.ntmps6
  go_upto_region 8 with (first | (go_at_call 10; refine (attr_Make.calls _ _ _ _ _ _ _ HM.out).mono ?_; rintro e v1 ⟨rfl, hb1⟩) | (go_at_call 9; refine (attr_Parts.calls _ _ _ _ _ _ _ HP.out).mono ?_; rintro e v2 ⟨rfl, hb2⟩) | (go_at_call 7; refine (H1.out _).mono ?_; rintro e v3 ⟨rfl, hb3⟩))
  have hB : Below w.heap.size w v3 := be_one hb3 (be_call hb2 hb1.size hb1)
  go_cut [5, 20] (fun s5 s20 wx => s5 = .int .i64 n ∧ (∃ kb : Bool, s20 = .bool kb ∧ Tells kb A X) ∧ Below w.heap.size w wx)
  case first =>
    go_wp2_with fail
    all_goals
      go_meet
      refine ⟨?n5, ⟨_, rfl, ?kt⟩, hB⟩
      case n5 => first | rfl | (rw [show n = _ from by assumption]) | (simp; omega)
      case kt =>
             first
        | exact .inl rfl
        | exact .inr (HK.out (by omega) (by omega) (by omega) (by omega) (by omega) (by omega) (by omega) (by omega))
        | (by_cases e49 : n = 49
           · exact .inl (by simp [e49])
           · exact .inr (HK.out (by omega) (by omega) (by omega) (by omega) (by omega) (by omega) (by omega) e49))
  case rest =>
    obtain ⟨rfl, ⟨kb, rfl, hkb⟩, hW⟩ := hcut
    clear hb1 hb2 hb3 hB HK
    rcases hkb with rfl | rfl
    · go_wp2_with (first | (go_at_call 7; with_reducible refine (H2.out _).mono ?_; rintro e v ⟨rfl, hbv⟩; replace hW := be_one hbv hW; clear hbv) | (go_at_call 7; with_reducible refine (H3.out _).mono ?_; rintro e v ⟨rfl, hbv⟩; replace hW := be_one hbv hW; clear hbv) | (go_at_call 7; with_reducible refine (H4.out _).mono ?_; rintro e v ⟨rfl, hbv⟩; replace hW := be_one hbv hW; clear hbv) | (go_at_call 7; with_reducible refine (H5.out _).mono ?_; rintro e v ⟨rfl, hbv⟩; replace hW := be_one hbv hW; clear hbv) | (go_at_call 7; with_reducible refine (H1.out _).mono ?_; rintro e v ⟨rfl, hbv⟩; replace hW := be_one hbv hW; clear hbv) | (go_at_call 7; with_reducible refine (H6.out _).mono ?_; rintro e v ⟨rfl, hbv⟩; replace hW := be_one hbv hW; clear hbv) | (go_at_call 8; refine (polyptychlaw3_awake.calls 200 true _ (awake_eq 200 (by omega))).mono ?_; rintro e v ⟨rfl, hbv⟩; replace hW := be_call hbv hW.size hW; clear hbv))
      go_ret
      exact ⟨rfl, hW⟩
    · cases kb
      all_goals
        go_wp2_with (first | (go_at_call 7; with_reducible refine (H2.out _).mono ?_; rintro e v ⟨rfl, hbv⟩; replace hW := be_one hbv hW; clear hbv) | (go_at_call 7; with_reducible refine (H3.out _).mono ?_; rintro e v ⟨rfl, hbv⟩; replace hW := be_one hbv hW; clear hbv) | (go_at_call 7; with_reducible refine (H4.out _).mono ?_; rintro e v ⟨rfl, hbv⟩; replace hW := be_one hbv hW; clear hbv) | (go_at_call 7; with_reducible refine (H5.out _).mono ?_; rintro e v ⟨rfl, hbv⟩; replace hW := be_one hbv hW; clear hbv) | (go_at_call 7; with_reducible refine (H1.out _).mono ?_; rintro e v ⟨rfl, hbv⟩; replace hW := be_one hbv hW; clear hbv) | (go_at_call 7; with_reducible refine (H6.out _).mono ?_; rintro e v ⟨rfl, hbv⟩; replace hW := be_one hbv hW; clear hbv) | (go_at_call 8; refine (polyptychlaw3_awake.calls 200 true _ (awake_eq 200 (by omega))).mono ?_; rintro e v ⟨rfl, hbv⟩; replace hW := be_call hbv hW.size hW; clear hbv))
        go_ret
        exact ⟨rfl, hW⟩
end Go.Proofs.Ytjppahlpadeenaa.AttrBackW

