/- LockApart: for every script for two locks the law returns true: without a condition. -/
import Derived.Test.YtkgfnldcgdlffaaWWords
import Derived.Test.YtkgfnldcgdlffaaWLast
import Derived.Test.YtkgfnldcgdlffaaLockStep
namespace Go.Proofs.Ytkgfnldcgdlffaa.LockApartW
open Go Go.RowKit Go.Proofs.YtkgfnldcgdlffaaKit Go.Proofs.Ytkgfnldcgdlffaa.Mem Go.Proofs.Ytkgfnldcgdlffaa.LockKeys Go.Proofs.Ytkgfnldcgdlffaa.LockBase Go.Proofs.Ytkgfnldcgdlffaa.LockAwake Go.Proofs.Ytkgfnldcgdlffaa.LockStep Go.Proofs.YtkgfnldcgdlffaaW.PrintWords Go.Proofs.YtkgfnldcgdlffaaW.PrintLast
set_option linter.unusedVariables false
set_option linter.unusedSimpArgs false
def key (x : Int) : Int := Go.bits .and .i64 (x / 8) 3
def step (s : St) (x : Int) : Bool × St := if Go.bits .and .i64 x 3 = 0 then sWrite s (key x) else if Go.bits .and .i64 x 3 = 1 then sRead s (key x) else sLeave s (key x)
theorem ok_step {s : St} (h : Ok s) (x : Int) : Ok (step s x).2 := by
  unfold step; split
  · exact ok_write h _
  · split
    · exact ok_read h _
    · exact ok_leave h _
theorem len_step (s : St) (x : Int) : (step s x).2.2.length ≤ s.2.length + 1 := by
  unfold step; split
  · have := len_write s (key x); omega
  · split
    · exact len_read s _
    · have := len_leave s (key x); omega
theorem key_wf (x : Int) : (Lit.int .i64 (key x)).wf = true := by
  have h : 0 ≤ Go.bits .and .i64 (x / 8) 3 ∧ Go.bits .and .i64 (x / 8) 3 ≤ 3 := and_range 2 (by omega) _
  exact WalkArith.wf_i64 (by unfold key; omega)
set_option maxRecDepth 100000 in
set_option maxHeartbeats 4000000 in
theorem do_calls (x : Int) (w W : World) (g B : Nat) (s : St) (h : Lk w W g B s.1 s.2) (ho : Ok s) (hl : s.2.length ≤ 1000000) :
    Calls Try.prog 14 #[.pointer (some ⟨g, 0, none⟩), .int .i64 x] W fun e W' => e = .returned (.bool (step s x).1) ∧ Lk w W' g B (step s x).2.1 (step s x).2.2 ∧ Turn W W' g B := by
  have H := hide h
  have HO := hide ho
  have HL := hide hl
  have HK := hide (key_wf x)
  clear h ho hl
  unfold step
  by_cases q0 : Go.bits .and .i64 x 3 = 0
  · have p0 : (Go.bits .and .i64 x 3 == 0) = true := by simp [q0]
    rw [if_pos q0]
    clear q0
    go_enter Try.func14, Try.ntmps14
    go_wp2_with (first | (go_at_call 9; refine (write_u (key x) w _ g B s H.out).mono ?_; rintro e W2 ⟨rfl, hl, ht⟩; have L1 := hide hl; have T1 := hide ht; clear hl ht) | go_in)
    go_ret
    exact ⟨rfl, L1.out, T1.out⟩
  · have p0 : (Go.bits .and .i64 x 3 == 0) = false := by simp [q0]
    rw [if_neg q0]
    clear q0
    by_cases q1 : Go.bits .and .i64 x 3 = 1
    · have p1 : (Go.bits .and .i64 x 3 == 1) = true := by simp [q1]
      rw [if_pos q1]
      clear q1
      go_enter Try.func14, Try.ntmps14
      go_wp2_with (first | (go_at_call 8; refine (read_u (key x) HK.out w _ g B s H.out HL.out).mono ?_; rintro e W2 ⟨rfl, hl, ht⟩; have L1 := hide hl; have T1 := hide ht; clear hl ht) | go_in)
      go_ret
      exact ⟨rfl, L1.out, T1.out⟩
    · have p1 : (Go.bits .and .i64 x 3 == 1) = false := by simp [q1]
      rw [if_neg q1]
      clear q1
      go_enter Try.func14, Try.ntmps14
      go_wp2_with (first | (go_at_call 11; refine (leave_u (key x) HK.out w _ g B s H.out HO.out).mono ?_; rintro e W2 ⟨rfl, hl, ht⟩; have L1 := hide hl; have T1 := hide ht; clear hl ht) | go_in)
      go_ret
      exact ⟨rfl, L1.out, T1.out⟩
/-- Two locks, one of them ahead of the other. -/
structure Lks (w W : World) (g B : Nat) (s : St) : Prop where
  l : Lk w W g B s.1 s.2
  ok : Ok s
theorem Lks.other {w W W' : World} {g B g' B' : Nat} {s : St} (h : Lks w W g B s) (t : Turn W W' g' B') (hg : w.heap.size ≤ g') (hB : w.heap.size ≤ B') (n : g < g' ∧ g < B' ∧ B < g' ∧ B < B' ∨ g' < g ∧ B' < g ∧ g' < B ∧ B' < B) : Lks w W' g B s :=
  ⟨h.l.other t hg hB (by omega) (by omega) (by omega) (by omega), h.ok⟩
theorem Lks.then_ {w W W' : World} {g B : Nat} {s : St} (h : Lks w W g B s) (hb : Below W.heap.size W W') : Lks w W' g B s := ⟨h.l.then_ hb, h.ok⟩
theorem Lks.row {w W W' : World} {g B : Nat} {s : St} {row : Option Nat} (h : Lks w W g B s) (hg : W.grownBy W' row) (hr : ∀ b, row = some b → g < b ∧ B < b) : Lks w W' g B s := ⟨lk_row h.l hg hr, h.ok⟩
theorem do_p (x : Int) (w W : World) (g B : Nat) (s : St) (h : Lks w W g B s) (hl : s.2.length ≤ 1000) :
    Calls Try.prog 14 #[.pointer (some ⟨g, 0, none⟩), .int .i64 x] W fun e W' => e = .returned (.bool (step s x).1) ∧ Lks w W' g B (step s x).2 ∧ Turn W W' g B :=
  (do_calls x w W g B s h.l h.ok (by omega)).mono fun e W' ⟨a, b, c⟩ => ⟨a, ⟨b, ok_step h.ok x⟩, c⟩
theorem new_p (w W : World) (hb : Below w.heap.size w W) :
    Calls Try.prog 7 #[] W fun e W' => ∃ g B, e = .returned (.pointer (some ⟨g, 0, none⟩)) ∧ Lks w W' g B (none, []) ∧ (W.heap.size ≤ g ∧ W.heap.size ≤ B) ∧ Below W.heap.size W W' :=
  (new_calls w W hb).mono fun e W' ⟨g, B, a, b, c, d, f⟩ => ⟨g, B, a, ⟨b, ok_nil⟩, ⟨c, d⟩, f⟩
structure Q4 (w W : World) (n : Nat) (ga Ba gb Bb gc Bc gd Bd : Nat) (sa sb sc sd : St) : Prop where
  a : Lks w W ga Ba sa
  b : Lks w W gb Bb sb
  c : Lks w W gc Bc sc
  d : Lks w W gd Bd sd
  o1 : ga < gb ∧ ga < Bb ∧ Ba < gb ∧ Ba < Bb
  o2 : gb < gc ∧ gb < Bc ∧ Bb < gc ∧ Bb < Bc
  o3 : gc < gd ∧ gc < Bd ∧ Bc < gd ∧ Bc < Bd
  o4 : gd < n ∧ Bd < n
section
variable {w W W' : World} {n ga Ba gb Bb gc Bc gd Bd : Nat} {sa sb sc sd : St} (h : Q4 w W n ga Ba gb Bb gc Bc gd Bd sa sb sc sd)
include h
theorem Q4.ta {s : St} (l : Lks w W' ga Ba s) (t : Turn W W' ga Ba) : Q4 w W' n ga Ba gb Bb gc Bc gd Bd s sb sc sd := by
  have := h.o1; have := h.o2; have := h.o3
  exact ⟨l, h.b.other t l.l.ge l.l.geB (by omega), h.c.other t l.l.ge l.l.geB (by omega), h.d.other t l.l.ge l.l.geB (by omega), h.o1, h.o2, h.o3, h.o4⟩
theorem Q4.tb {s : St} (l : Lks w W' gb Bb s) (t : Turn W W' gb Bb) : Q4 w W' n ga Ba gb Bb gc Bc gd Bd sa s sc sd := by
  have := h.o1; have := h.o2; have := h.o3
  exact ⟨h.a.other t l.l.ge l.l.geB (by omega), l, h.c.other t l.l.ge l.l.geB (by omega), h.d.other t l.l.ge l.l.geB (by omega), h.o1, h.o2, h.o3, h.o4⟩
theorem Q4.tc {s : St} (l : Lks w W' gc Bc s) (t : Turn W W' gc Bc) : Q4 w W' n ga Ba gb Bb gc Bc gd Bd sa sb s sd := by
  have := h.o1; have := h.o2; have := h.o3
  exact ⟨h.a.other t l.l.ge l.l.geB (by omega), h.b.other t l.l.ge l.l.geB (by omega), l, h.d.other t l.l.ge l.l.geB (by omega), h.o1, h.o2, h.o3, h.o4⟩
theorem Q4.td {s : St} (l : Lks w W' gd Bd s) (t : Turn W W' gd Bd) : Q4 w W' n ga Ba gb Bb gc Bc gd Bd sa sb sc s := by
  have := h.o1; have := h.o2; have := h.o3
  exact ⟨h.a.other t l.l.ge l.l.geB (by omega), h.b.other t l.l.ge l.l.geB (by omega), h.c.other t l.l.ge l.l.geB (by omega), l, h.o1, h.o2, h.o3, h.o4⟩
theorem Q4.then_ (hb : Below W.heap.size W W') : Q4 w W' n ga Ba gb Bb gc Bc gd Bd sa sb sc sd := ⟨h.a.then_ hb, h.b.then_ hb, h.c.then_ hb, h.d.then_ hb, h.o1, h.o2, h.o3, h.o4⟩
theorem Q4.row {row : Option Nat} (hg : W.grownBy W' row) (hr : ∀ b, row = some b → n ≤ b) : Q4 w W' n ga Ba gb Bb gc Bc gd Bd sa sb sc sd := by
  have := h.o1; have := h.o2; have := h.o3; have := h.o4
  exact ⟨h.a.row hg (fun b hb => by have := hr b hb; omega), h.b.row hg (fun b hb => by have := hr b hb; omega), h.c.row hg (fun b hb => by have := hr b hb; omega), h.d.row hg (fun b hb => by have := hr b hb; omega), h.o1, h.o2, h.o3, h.o4⟩
theorem Q4.below : Below w.heap.size w W := h.a.l.below
end
def runs (s : St) : List Int → St
  | [] => s
  | x :: l => runs (step s x).2 l
theorem runs_append (s : St) : ∀ (l : List Int) (x : Int), runs s (l ++ [x]) = (step (runs s l) x).2
  | [], _ => rfl
  | y :: l, x => runs_append (step s y).2 l x
theorem runs_len (s : St) (l : List Int) : (runs s l).2.length ≤ s.2.length + l.length := by
  induction l generalizing s with
  | nil => simp [runs]
  | cons x l ih => have h1 := ih (step s x).2; have h2 := len_step s x; simp only [runs, List.length_cons]; omega
theorem writer_q (w W : World) (g B : Nat) (s : Option Int) (xs : List Int) (h : Lk w W g B s xs) (y : Int) (b : Bool) (hy : s.getD 0 = y) (hb : s.isSome = b) :
    Calls Try.prog 12 #[.pointer (some ⟨g, 0, none⟩)] W fun e W' => e = .returned (.tuple #[.int .i64 y, .bool b]) ∧ Below W.heap.size W W' := by
  subst hy hb
  exact writer_calls w W g B s xs h
theorem row_size {W : World} {base : Nat} {e : TypeId} {k : Nat} {lb : Option Nat} {n cap : Nat} {xs : List Value} (h : Own W base e k lb n cap xs) : ∀ b, lb = some b → base ≤ b := fun b hb => by subst hb; exact (own_base h).1
set_option maxRecDepth 100000 in
set_option maxHeartbeats 8000000 in
theorem walkR (A : Option Addr) (len c : Nat) (z : List Int) (w : World)
    (h1 : (A = none ∧ len = 0 ∧ c = 0 ∧ z = []) ∨ ∃ x, A = some x ∧ len ≤ c ∧ c ≤ maxLen ∧ z.length = c ∧ (∀ i, i < z.length → w.cell? (x.add i) = some (.int .i64 (z.getD i 0))) ∧ ∀ n ∈ z, (Lit.int .i64 n).wf = true) (y1 : len * 8 ≤ 140737488351232) :
    Calls Try.prog 5 #[.slice A len c] w fun e w' => e = .returned (.bool true) ∧ Below w.heap.size w w' := by
  obtain ⟨l, rfl, hr, _, _⟩ := ReadsInt.ofRow h1
  clear h1 y1
  obtain ⟨L, hL⟩ : ∃ L, L = l.length := ⟨_, rfl⟩
  rw [← hL] at hr ⊢
  have R1 := hide hr
  clear hr hL
  have HN := hide (new_p w w (Below.refl _ _))
  go_enter Try.func5, Try.ntmps5
  go_wp2_with (first
    | (go_at_call 7; with_reducible refine HN.out.mono ?_; rintro e W1 ⟨ga, Ba, rfl, hl, ho, hb⟩; have A1 := hide hl; clear hl ho hb HN)
    | (go_at_call 7; refine (new_p w _ A1.out.l.below).mono ?_; rintro e W2 ⟨gb, Bb, rfl, hl, ho, hb⟩; have A2 := hide (A1.out.then_ hb); have B2 := hide hl; have N1 := hide (And.intro ho (And.intro A1.out.l.lt A1.out.l.map.lt)); clear hl ho hb A1)
    | (go_at_call 7; refine (new_p w _ A2.out.l.below).mono ?_; rintro e W3 ⟨gc, Bc, rfl, hl, ho, hb⟩; have A3 := hide (A2.out.then_ hb); have B3 := hide (B2.out.then_ hb); have C3 := hide hl; have N2 := hide (And.intro ho (And.intro B2.out.l.lt B2.out.l.map.lt)); clear hl ho hb A2 B2)
    | (go_at_call 7; refine (new_p w _ A3.out.l.below).mono ?_; rintro e W4 ⟨gd, Bd, rfl, hl, ho, hb⟩; have QQ := hide (show Q4 w W4 W4.heap.size ga Ba gb Bb gc Bc gd Bd (none, []) (none, []) (none, []) (none, []) from ⟨A3.out.then_ hb, B3.out.then_ hb, C3.out.then_ hb, hl, by have := N1.out; omega, by have := N2.out; omega, by have := C3.out.l.lt; have := C3.out.l.map.lt; omega, hl.l.lt, hl.l.map.lt⟩); clear hl ho hb A3 B3 C3)
    | go_in)
  obtain ⟨n, hn⟩ : ∃ n, n = W4.heap.size := ⟨_, rfl⟩
  have HNS := hide hn
  rw [← hn] at QQ
  clear hn
  go_loopw [8, 9] (fun v8 v9 wr => ∃ (i : Nat) (sa : St) (ls : List Int) (lb : Option Nat) (cap : Nat), i ≤ 60 ∧ v8 = sl lb ls.length cap ∧ v9 = .int .i64 (i : Int) ∧ Q4 w wr n ga Ba gb Bb gc Bc gd Bd sa (runs (none, []) ls) sa (none, []) ∧ Own wr n 3 1 lb ls.length cap (ls.map (.int .i64)) ∧ n ≤ wr.heap.size ∧ ls.length ≤ i ∧ sa.2.length ≤ i) (fun _ v9 _ => (60 - intOf v9).toNat)
  case atStart =>
    exact ⟨0, (none, []), [], none, 0, by omega, rfl, rfl, QQ.out, Own.nil _ _ _ _, by rw [HNS.out]; exact Nat.le_refl _, by simp, by simp⟩
  case round =>
    obtain ⟨i, sa, ls, lb, cap, hi, rfl, rfl, hQ, hO, hsz, hls, hla⟩ := hrel
    have Q1 := hide hQ
    have O1 := hide hO
    have HSZ := hide hsz
    have HI := hide (And.intro hi (And.intro hls hla))
    clear hQ hO hsz hls hla
    by_cases hgo : i < L ∧ i < 60
    · have p1 : ((i : Int) < (L : Int)) = True := eq_true (by omega)
      have p2 : ((i : Int) < 60) = True := eq_true (by omega)
      obtain ⟨ad, rfl, _⟩ := R1.out.at_ (i : Int) (by omega) (by omega)
      have RC := hide (show ∀ W : World, Below w.heap.size w W → W.cell? (ad.add i) = some (.int .i64 (rd l i)) from fun W hb => by
        obtain ⟨ad', e, hc⟩ := (R1.out.below hb).at_ (i : Int) (by omega) (by omega)
        cases e
        simpa using hc)
      have lc := RC.out _ Q1.out.below
      obtain ⟨x, hx⟩ : ∃ x, x = rd l i := ⟨_, rfl⟩
      rw [← hx] at lc RC
      have HG := hide hgo
      have hw : wrap64 ((i : Int) + 1) = ((i + 1 : Nat) : Int) := by unfold wrap64; omega
      have HW := hide hw
      clear hgo hx hw hi
      by_cases qb : Go.bits .and .i64 (x / 4) 1 = 0
      · have p3 : (Go.bits .and .i64 (x / 4) 1 == 0) = true := by simp [qb]
        clear qb
        go_wp2
        have QD := hide (Q1.out.then_ (be_drew (be_refl _)))
        go_region_with (first
          | (go_at_call 14; refine (do_p x w _ ga Ba sa QD.out.a (by have := HI.out; omega)).mono ?_; rintro e W5 ⟨rfl, hl, ht⟩; have Q2 := hide (QD.out.ta hl ht); have lc2 := RC.out _ Q2.out.below; have T2 := hide ht; clear hl ht lc QD)
          | (go_at_call 14; refine (do_p x w _ gc Bc sa Q2.out.c (by have := HI.out; omega)).mono ?_; rintro e W6 ⟨rfl, hl, ht⟩; have Q3 := hide (Q2.out.tc hl ht); have T3 := hide ht; clear hl ht Q2))
        all_goals
          clear lc2
          go_wp2
          refine ⟨⟨i + 1, (step sa x).2, ls, lb, cap, by have := HG.out; omega, rfl, by rw [HW.out], Q3.out, own_turn (own_turn (O1.out.drew) T2.out (by have := Q3.out.o1; have := Q3.out.o2; have := Q3.out.o3; have := Q3.out.o4; omega) (by have := Q3.out.o1; have := Q3.out.o2; have := Q3.out.o3; have := Q3.out.o4; omega)) T3.out (by have := Q3.out.o1; have := Q3.out.o2; have := Q3.out.o3; have := Q3.out.o4; omega) (by have := Q3.out.o1; have := Q3.out.o2; have := Q3.out.o3; have := Q3.out.o4; omega), Nat.le_trans HSZ.out (Nat.le_trans T2.out.size T3.out.size), by have := HI.out; omega, by have := HI.out; have := len_step sa x; omega⟩, ?_⟩
          rw [HW.out]; simp only [intOf]; have := HG.out; omega
      · have p3 : (Go.bits .and .i64 (x / 4) 1 == 0) = false := by simp [qb]
        clear qb
        obtain ⟨n2, hn2⟩ : ∃ n2, n2 = ls.length := ⟨_, rfl⟩
        rw [← hn2] at O1 ⊢
        have HN2 := hide hn2
        clear hn2
        go_upto_region 13 with (first
          | (at_builtin; refine push_int _ rfl (.tmp 66) (.tmp 71) rfl n lb n2 cap ls rfl (O1.out.alloc _) wr.heap.size 3 x rfl (bs_new rfl) (by rw [HN2.out]; have := HI.out; omega) (by simp; exact Nat.le_succ_of_le HSZ.out) ?_; intro lb2 cap2 W5 ho hg; have O2 := hide ho; have Q2 := hide ((Q1.out.then_ (be_alloc (be_refl _) (Nat.le_refl _))).row hg (row_size O1.out)); have lc2 := RC.out _ Q2.out.below; have S2 := hide hg.size; clear ho hg lc)
          | go_in)
        go_wp2_with (first
          | (go_at_call 14; refine (do_p x w _ gb Bb _ Q2.out.b (by have := HI.out; have := runs_len (none, []) ls; simp only [List.length_nil] at this; omega)).mono ?_; rintro e W6 ⟨rfl, hl, ht⟩; have Q3 := hide (Q2.out.tb hl ht); have T3 := hide ht; clear hl ht Q2)
          | go_in)
        have hl2 : (ls ++ [x]).length = n2 + 1 := by rw [List.length_append, HN2.out]; rfl
        refine ⟨⟨i + 1, sa, ls ++ [x], lb2, cap2, by have := HG.out; omega, by rw [hl2], by rw [HW.out], by rw [runs_append]; exact Q3.out, by rw [hl2]; exact own_turn O2.out T3.out (by have := Q3.out.o1; have := Q3.out.o2; have := Q3.out.o3; have := Q3.out.o4; omega) (by have := Q3.out.o1; have := Q3.out.o2; have := Q3.out.o3; have := Q3.out.o4; omega), Nat.le_trans (Nat.le_trans HSZ.out (by have := S2.out; simp at this; omega)) T3.out.size, by rw [hl2]; have := HN2.out; have := HI.out; omega, by have := HI.out; omega⟩, ?_⟩
        rw [HW.out]; simp only [intOf]; have := HG.out; omega
    · have hcase : (((i : Int) < (L : Int)) = False) ∨ (((i : Int) < (L : Int)) = True ∧ ((i : Int) < 60) = False) := by
        by_cases q : (i : Int) < (L : Int)
        · exact .inr ⟨eq_true q, eq_false (fun q2 => hgo ⟨by omega, by omega⟩)⟩
        · exact .inl (eq_false q)
      obtain ⟨oa, hoa⟩ : ∃ oa, oa = lb.map fun b => (⟨b, 0, none⟩ : Addr) := ⟨_, rfl⟩
      have hsl : sl lb ls.length cap = .slice oa ls.length cap := by rw [hoa]; rfl
      have RD := hide (show Rd wr n oa (ls.map (.int .i64)) from by rw [hoa]; exact Rd.of O1.out)
      obtain ⟨sb, hsb⟩ : ∃ sb, sb = runs (none, []) ls := ⟨_, rfl⟩
      rw [← hsb] at Q1
      have HSB := hide hsb
      have HBL := hide (show sb.2.length ≤ 60 from by have := HI.out; have h2 := runs_len (none, []) ls; rw [← hsb] at h2; simp only [List.length_nil] at h2; omega)
      obtain ⟨n2, hn2⟩ : ∃ n2, n2 = ls.length := ⟨_, rfl⟩
      rw [hsl, ← hn2]
      have HN2 := hide hn2
      clear hgo hoa hsl hsb hn2
      rcases hcase with p1 | ⟨p1, p2⟩
      all_goals
        go_wp2
        go_loopw [82] (fun v82 wr2 => ∃ k : Nat, k ≤ n2 ∧ v82 = .int .i64 (k : Int) ∧ Q4 w wr2 n ga Ba gb Bb gc Bc gd Bd sa sb sa (runs (none, []) (ls.take k)) ∧ Rd wr2 n oa (ls.map (.int .i64))) (fun v82 _ => (n2 - intOf v82).toNat)
        case atStart => exact ⟨0, by omega, rfl, Q1.out, RD.out⟩
        case round =>
          obtain ⟨k, hk, rfl, hQ, hR⟩ := hrel
          have Q2 := hide hQ
          have R2 := hide hR
          have HK := hide hk
          have RK := hide (show (runs (none, []) (ls.take k)).2.length ≤ 60 from by have h2 := runs_len (none, []) (ls.take k); simp only [List.length_nil, List.length_take] at h2; have := HI.out; omega)
          clear hQ hR
          by_cases q : k < n2
          · have q1 : ((k : Int) < (n2 : Int)) = True := eq_true (by omega)
            have hkl : k < ls.length := by have := HN2.out; omega
            obtain ⟨x, hx⟩ : ∃ x, ls[k]? = some x := ⟨_, List.getElem?_eq_getElem hkl⟩
            have hv : (ls.map (Value.int .i64))[k]? = some (.int .i64 x) := by rw [List.getElem?_map, hx]; rfl
            obtain ⟨a, rfl, _, hca⟩ := R2.out.at_ k _ hv
            have hw : wrap64 ((k : Int) + 1) = ((k + 1 : Nat) : Int) := by have := HI.out; have := HN2.out; unfold wrap64; omega
            have HW := hide hw
            have HQ := hide q
            have HRT := hide (show runs (none, []) (ls.take (k + 1)) = (step (runs (none, []) (ls.take k)) x).2 from by rw [List.take_add_one, hx, Option.toList_some, runs_append])
            clear q hw hx hv hk
            go_wp2_with (first
              | (go_at_call 14; refine (do_p x w _ gd Bd _ Q2.out.d (by have := RK.out; omega)).mono ?_; rintro e W6 ⟨rfl, hl, ht⟩; have Q3 := hide (Q2.out.td hl ht); have T3 := hide ht; clear hl ht)
              | go_in)
            refine ⟨⟨k + 1, by have := HQ.out; omega, by rw [HW.out], by rw [HRT.out]; exact Q3.out, R2.out.keep fun b hb hlt => T3.out.block b hlt (by have := Q3.out.o4; omega) (by have := Q3.out.o4; omega)⟩, ?_⟩
            rw [HW.out]; simp only [intOf]; have := HQ.out; omega
          · have q1 : ((k : Int) < (n2 : Int)) = False := eq_false (by omega)
            have hkl : runs (none, []) (ls.take k) = sb := by rw [List.take_of_length_le (by have := HN2.out; omega), HSB.out]
            rw [hkl] at Q2
            obtain ⟨y, hy⟩ : ∃ y, sb.1.getD 0 = y := ⟨_, rfl⟩
            obtain ⟨t, ht⟩ : ∃ t, sb.1.isSome = t := ⟨_, rfl⟩
            obtain ⟨m, hm⟩ : ∃ m, sb.2.length = m := ⟨_, rfl⟩
            have HY := hide hy
            have HT := hide ht
            have HM := hide hm
            clear q hkl hk hy ht hm
            go_wp2_with (first
              | (go_at_call 12; refine (writer_q w _ gb Bb sb.1 sb.2 Q2.out.b.l y t HY.out HT.out).mono ?_; rintro e W6 ⟨rfl, hb⟩; have Q3 := hide (Q2.out.then_ hb); clear hb Q2)
              | (go_at_call 12; refine (writer_q w _ gd Bd sb.1 sb.2 Q3.out.d.l y t HY.out HT.out).mono ?_; rintro e W6 ⟨rfl, hb⟩; have Q4 := hide (Q3.out.then_ hb); clear hb Q3)
              | (go_at_call 10; refine (readers_p m w _ gb Bb sb.1 sb.2 Q4.out.b.l (by have := HBL.out; omega) HM.out).mono ?_; rintro e W6 ⟨lb2, cap2, rfl, ho, hb⟩; obtain ⟨q, hq⟩ := sl_to lb2 m cap2; rw [hq]; have Q5 := hide (Q4.out.then_ hb); clear ho hb hq Q4)
              | (go_at_call 10; refine (readers_p m w _ gd Bd sb.1 sb.2 Q5.out.d.l (by have := HBL.out; omega) HM.out).mono ?_; rintro e W6 ⟨lb2, cap2, rfl, ho, hb⟩; obtain ⟨q, hq⟩ := sl_to lb2 m cap2; rw [hq]; have Q6 := hide (Q5.out.then_ hb); clear ho hb hq Q5)
              | (go_at_call 13; refine (awake_calls _).mono ?_; rintro e W2 ⟨rfl, hb⟩; have M10 := hide (Q6.out.below.trans (hb.mono Q6.out.below.size)); clear hb Q6)
              | go_in)
            go_ret
            exact ⟨rfl, M10.out⟩
end Go.Proofs.Ytkgfnldcgdlffaa.LockApartW


