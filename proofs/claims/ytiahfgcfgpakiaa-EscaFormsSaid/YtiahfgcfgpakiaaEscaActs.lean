/- Rows of actions, and what a loop over bytes, or runes, keeps: plain theorems on worlds, without a condition of their own. -/
import Derived.Test.YtiahfgcfgpakiaaEscaSign
namespace Go.Proofs.Ytiahfgcfgpakiaa.EscaVal
open Go Go.RowKit Go.Proofs.YtiahfgcfgpakiaaKit Go.Proofs.Ytiahfgcfgpakiaa.Mem Go.Proofs.YtiahfgcfgpakiaaW.PrintWords Go.Proofs.YtiahfgcfgpakiaaW.PrintLast Go.Proofs.Ytiahfgcfgpakiaa.Split
set_option linter.unusedVariables false
set_option linter.unusedSimpArgs false
/-- An action, with the place of its parameters. -/
abbrev ActD := Act3 × Option Addr × Nat
def flatD (ds : List ActD) : List Value := ds.flatMap fun d => [.int .i64 d.1.1, .int .i32 d.1.2.1, .slice d.2.1 d.1.2.2.length d.2.2]
theorem flatD_append (a b : List ActD) : flatD (a ++ b) = flatD a ++ flatD b := by simp [flatD]
theorem flatD_len (ds : List ActD) : (flatD ds).length = ds.length * 3 := by
  induction ds with
  | nil => rfl
  | cons d ds ih => simp only [flatD, List.flatMap_cons, List.length_append, List.length_cons, List.length_nil] at *; omega
theorem flatD_one (ds : List ActD) : ∀ u ∈ flatD ds, u.oneCell' = true := by
  intro u hu
  obtain ⟨d, _, h⟩ := List.mem_flatMap.1 hu
  simp only [List.mem_cons, List.not_mem_nil, or_false] at h
  rcases h with rfl | rfl | rfl <;> rfl
structure ActsL (W : World) (base : Nat) (lb : Option Nat) (cap : Nat) (l : List Act3) (ds : List ActD) : Prop where
  map : ds.map (·.1) = l
  own : Own W base 24 3 lb l.length cap (flatD ds)
  par : ∀ d ∈ ds, d.1.2.2.length ≤ d.2.2 ∧ Kd.F (Kd.int .i64) W (fun k => base ≤ k ∧ some k ≠ lb) d.2.1 d.1.2.2.length d.1.2.2
def ActsR (W : World) (base : Nat) (v : Value) (l : List Act3) : Prop := ∃ (lb : Option Nat) (cap : Nat) (ds : List ActD), v = sl lb l.length cap ∧ ActsL W base lb cap l ds
theorem ActsL.nil (W : World) (base : Nat) : ActsL W base none 0 [] [] := ⟨rfl, Own.nil _ _ _ _, fun d h => by cases h⟩
theorem ActsL.below {W W' : World} {base : Nat} {lb : Option Nat} {cap : Nat} {l : List Act3} {ds : List ActD} (h : ActsL W base lb cap l ds) (hb : Below W.heap.size W W') : ActsL W' base lb cap l ds :=
  ⟨h.map, h.own.below hb, fun d hd => ⟨(h.par d hd).1, Kd.F_below (h.par d hd).2 hb⟩⟩
theorem ActsL.far {W : World} {base : Nat} {lb : Option Nat} {cap : Nat} {l : List Act3} {ds : List ActD} {p : Addr} (h : ActsL W base lb cap l ds) (hp : p.block < base) (v : Value) : ActsL (W.setCell p v) base lb cap l ds :=
  ⟨h.map, h.own.far (fun b e => by subst e; have := (own_base h.own).1; omega) v, fun d hd => ⟨(h.par d hd).1, Kd.F_far (h.par d hd).2 (fun k hk => by have := hk.1; omega) v⟩⟩
theorem ActsL.lower {W : World} {base base' : Nat} {lb : Option Nat} {cap : Nat} {l : List Act3} {ds : List ActD} (h : ActsL W base lb cap l ds) (hb : base' ≤ base) : ActsL W base' lb cap l ds :=
  ⟨h.map, h.own.lower hb, fun d hd => ⟨(h.par d hd).1, Kd.F_mono (h.par d hd).2 (fun k hk => ⟨Nat.le_trans hb hk.1, hk.2⟩)⟩⟩
theorem ActsL.len {W : World} {base : Nat} {lb : Option Nat} {cap : Nat} {l : List Act3} {ds : List ActD} (h : ActsL W base lb cap l ds) : ds.length = l.length := by rw [← h.map, List.length_map]
/-- A row that is appended to. -/
theorem ActsL.append {W W' : World} {base base1 : Nat} {lb lb1 lb' : Option Nat} {cap cap1 cap' : Nat} {l l1 : List Act3} {ds ds1 : List ActD} (h : ActsL W base lb cap l ds) (h1 : ActsL W base1 lb1 cap1 l1 ds1)
    (hlt : ∀ b, lb = some b → b < base1) (hb : base ≤ base1) (hg : W.grownBy W' lb) (hat : lb' = lb ∨ lb' = some W.heap.size) (hown : Own W' base 24 3 lb' (l.length + l1.length) cap' (flatD ds ++ flatD ds1)) :
    ActsL W' base lb' cap' (l ++ l1) (ds ++ ds1) := by
  refine ⟨by rw [List.map_append, h.map, h1.map], by rw [flatD_append, List.length_append]; exact hown, fun d hd => ?_⟩
  rcases List.mem_append.1 hd with hd | hd
  · refine ⟨(h.par d hd).1, Kd.F_mono (Kd.F_grown (Kd.F_bound (h.par d hd).2) hg (fun k hk => hk.1.2)) (fun k hk => ⟨hk.1.1, ?_⟩)⟩
    rcases hat with e | e
    · rw [e]; exact hk.1.2
    · rw [e]; intro e2; cases e2; exact absurd hk.2 (Nat.lt_irrefl _)
  · have hne : ∀ k, base1 ≤ k → some k ≠ lb := fun k hk e => by have := hlt k e.symm; omega
    refine ⟨(h1.par d hd).1, Kd.F_mono (Kd.F_grown (Kd.F_bound (h1.par d hd).2) hg (fun k hk => hne k hk.1.1)) (fun k hk => ⟨Nat.le_trans hb hk.1.1, ?_⟩)⟩
    rcases hat with e | e
    · rw [e]; exact hne k hk.1.1
    · rw [e]; intro e2; cases e2; exact absurd hk.2 (Nat.lt_irrefl _)
theorem ActR.acts {W : World} {base : Nat} {v : Value} {l : List Act3} (h : ActR W base v l) : ActsR W base v l := by
  rcases h with ⟨rfl, rfl⟩ | ⟨k, r, ps, g, u, rfl, h2, rfl, h4, h5⟩
  · exact ⟨none, 0, [], rfl, .nil _ _⟩
  · obtain ⟨A, c, rfl⟩ := Kd.R_slice h5
    have hr := Kd.R_reads' h5
    refine ⟨some g, 1, [((k, r, ps), A, c)], rfl, rfl, Own.lit (vs := [.int .i64 k, .int .i32 r, .slice A ps.length c]) h4 rfl h2 (show (1 : Nat) ≤ maxLen by unfold maxLen; omega), fun d hd => ?_⟩
    simp only [List.mem_cons, List.not_mem_nil, or_false] at hd
    subst hd
    exact ⟨hr.2.1, Kd.F_mono (Kd.R_F h5) (fun j hj => ⟨hj.1, fun e => by cases e; exact hj.2 rfl⟩)⟩
/-- What a byte, or a rune, leads to. -/
def OutG (w : World) (P : Nat → Prop) (u : E8 × List Act3) (e : Ending) (w' : World) : Prop :=
  ∃ (A : Option Addr) (c : Nat) (lb : Option Nat) (cap : Nat) (ds : List ActD), e = .returned (.tuple #[esV u.1 A u.1.ps.length c, sl lb u.2.length cap]) ∧ u.1.ps.length ≤ c ∧
    Kd.F (Kd.int .i64) w' (fun k => (P k ∨ w.heap.size ≤ k) ∧ some k ≠ lb) A u.1.ps.length u.1.ps ∧ ActsL w' w.heap.size lb cap u.2 ds ∧ Below w.heap.size w w'
theorem OutE.g {w w' : World} {P : Nat → Prop} {u : E8 × List Act3} {e : Ending} (h : OutE w P u e w') : OutG w P u e w' := by
  obtain ⟨v4, v8, rfl, ⟨A, c, rfl, hc, hF⟩, ha, hb⟩ := h
  obtain ⟨lb, cap, ds, rfl, hL⟩ := ha.acts
  refine ⟨A, c, lb, cap, ds, rfl, hc, ?_, hL, hb⟩
  rw [sl_block] at hF
  exact hF
def esC (s : E8) (A : Option Addr) (c : Nat) : Array Value := #[.int .i64 s.m, .int .i64 s.n1, .int .i64 s.n2, .int .i64 s.n3, .slice A s.ps.length c, .int .i64 s.num, .bool s.q, .bool s.r]
def esZ : Array Value := #[.int .i64 0, .int .i64 0, .int .i64 0, .int .i64 0, .slice none 0 0, .int .i64 0, .bool false, .bool false]
/-- What the loops keep: the escape, the result's cells, what is asked. -/
structure LI (w : World) (P : Nat → Prop) (s : E8) (A : Option Addr) (c : Nat) (lb : Option Nat) (cap : Nat) (l : List Act3) (ds : List ActD) (W : World) : Prop where
  me : W.heap[w.heap.size]? = some (.cells (esC s A c) 33 (0, 0))
  res : W.heap[w.heap.size + 1]? = some (.cells esZ 33 (0, 0))
  acts : ActsL W (w.heap.size + 2) lb cap l ds
  lc : s.ps.length ≤ c
  par : Kd.F (Kd.int .i64) W (fun k => ((P k ∧ k < w.heap.size) ∨ w.heap.size + 2 ≤ k) ∧ some k ≠ lb) A s.ps.length s.ps
  be : Below w.heap.size w W
section
variable {w W W' : World} {P : Nat → Prop} {s : E8} {A : Option Addr} {c : Nat} {lb : Option Nat} {cap : Nat} {l : List Act3} {ds : List ActD}
theorem LI.below (h : LI w P s A c lb cap l ds W) (hb : Below W.heap.size W W') : LI w P s A c lb cap l ds W' :=
  ⟨bs_below hb (bs_lt h.me) h.me, bs_below hb (bs_lt h.res) h.res, h.acts.below hb, h.lc, Kd.F_below h.par hb, be_call hb h.be.size h.be⟩
theorem LI.V (h : LI w P s A c lb cap l ds W) : Kd.V (Kd.int .i64) 3 W W.heap.size (fun k => (((P k ∧ k < w.heap.size) ∨ w.heap.size + 2 ≤ k) ∧ some k ≠ lb) ∧ k < W.heap.size) (.slice A s.ps.length c) s.ps := ⟨A, c, rfl, h.lc, Kd.F_bound h.par⟩
theorem LI.sz (h : LI w P s A c lb cap l ds W) : w.heap.size + 2 ≤ W.heap.size := by have := bs_lt h.res; omega
/-- What stands behind the call: the next escape in a block of its own. -/
structure LN (w : World) (P : Nat → Prop) (s : E8) (A : Option Addr) (c : Nat) (lb : Option Nat) (cap : Nat) (l : List Act3) (ds : List ActD) (G : Nat) (s2 : E8) (A2 : Option Addr) (c2 : Nat) (lb2 : Option Nat) (cap2 : Nat) (l2 : List Act3) (ds2 : List ActD) (B : Nat) (W : World) : Prop where
  li : LI w P s A c lb cap l ds W
  nxt : W.heap[G]? = some (.cells (esC s2 A2 c2) 33 (0, 0))
  geG : B ≤ G
  geB : w.heap.size + 2 ≤ B
  lbB : ∀ b, lb = some b → b < B
  acts2 : ActsL W B lb2 cap2 l2 ds2
  lc2 : s2.ps.length ≤ c2
  par2 : Kd.F (Kd.int .i64) W (fun k => ((P k ∧ k < w.heap.size) ∨ w.heap.size + 2 ≤ k) ∧ some k ≠ lb) A2 s2.ps.length s2.ps
variable {G : Nat} {s2 : E8} {A2 : Option Addr} {c2 : Nat} {lb2 : Option Nat} {cap2 : Nat} {l2 : List Act3} {ds2 : List ActD} {B : Nat}
theorem LN.below (h : LN w P s A c lb cap l ds G s2 A2 c2 lb2 cap2 l2 ds2 B W) (hb : Below W.heap.size W W') : LN w P s A c lb cap l ds G s2 A2 c2 lb2 cap2 l2 ds2 B W' :=
  ⟨h.li.below hb, bs_below hb (bs_lt h.nxt) h.nxt, h.geG, h.geB, h.lbB, h.acts2.below hb, h.lc2, Kd.F_below h.par2 hb⟩
/-- Behind the call. -/
theorem LN.of {W1 W2 : World} (h : LI w P s A c lb cap l ds W) (hb : Below W.heap.size W W1) (hlc : s2.ps.length ≤ c2)
    (hF : Kd.F (Kd.int .i64) W1 (fun k => (((((P k ∧ k < w.heap.size) ∨ w.heap.size + 2 ≤ k) ∧ some k ≠ lb) ∧ k < W.heap.size) ∨ W.heap.size ≤ k) ∧ some k ≠ lb2) A2 s2.ps.length s2.ps)
    (ha : ActsL W1 W.heap.size lb2 cap2 l2 ds2) (hb2 : Below W1.heap.size W1 W2) (hn : W2.heap[G]? = some (.cells (esC s2 A2 c2) 33 (0, 0))) (hG : W.heap.size ≤ G) :
    LN w P s A c lb cap l ds G s2 A2 c2 lb2 cap2 l2 ds2 W.heap.size W2 := by
  have hl : ∀ b, lb = some b → b < W.heap.size := fun b e => by have h2 := h.acts.own; rw [e] at h2; exact (own_base h2).2
  refine ⟨(h.below hb).below hb2, hn, hG, h.sz, hl, ha.below hb2, hlc, Kd.F_mono (Kd.F_below hF hb2) (fun k hk => ?_)⟩
  rcases hk.1 with h1 | h1
  · exact h1.1
  · exact ⟨.inr (Nat.le_trans h.sz h1), fun e => by have := hl k e.symm; omega⟩
/-- Behind the append. -/
structure LA (w : World) (P : Nat → Prop) (s : E8) (A : Option Addr) (c : Nat) (lb : Option Nat) (cap : Nat) (l : List Act3) (ds : List ActD) (s2 : E8) (A2 : Option Addr) (c2 : Nat) (W : World) : Prop where
  li : LI w P s A c lb cap l ds W
  lc2 : s2.ps.length ≤ c2
  par2 : Kd.F (Kd.int .i64) W (fun k => ((P k ∧ k < w.heap.size) ∨ w.heap.size + 2 ≤ k) ∧ some k ≠ lb) A2 s2.ps.length s2.ps
theorem LN.append {lb' : Option Nat} {cap' : Nat} (h : LN w P s A c lb cap l ds G s2 A2 c2 lb2 cap2 l2 ds2 B W) (hg : W.grownBy W' lb) (hat : lb' = lb ∨ lb' = some W.heap.size) (hown : Own W' (w.heap.size + 2) 24 3 lb' (l.length + l2.length) cap' (flatD ds ++ flatD ds2)) :
    LA w P s A c lb' cap' (l ++ l2) (ds ++ ds2) s2 A2 c2 W' := by
  have hl : ∀ b, lb = some b → w.heap.size + 2 ≤ b := fun b e => by have h2 := h.li.acts.own; rw [e] at h2; exact (own_base h2).1
  have hF : ∀ {A3 : Option Addr} {xs : List Int}, Kd.F (Kd.int .i64) W (fun k => ((P k ∧ k < w.heap.size) ∨ w.heap.size + 2 ≤ k) ∧ some k ≠ lb) A3 xs.length xs → Kd.F (Kd.int .i64) W' (fun k => ((P k ∧ k < w.heap.size) ∨ w.heap.size + 2 ≤ k) ∧ some k ≠ lb') A3 xs.length xs := fun h3 => by
    refine Kd.F_mono (Kd.F_grown (Kd.F_bound h3) hg (fun k hk => hk.1.2)) (fun k hk => ⟨hk.1.1, ?_⟩)
    rcases hat with e | e
    · rw [e]; exact hk.1.2
    · rw [e]; intro e2; cases e2; exact absurd hk.2 (Nat.lt_irrefl _)
  refine ⟨⟨?_, ?_, h.li.acts.append h.acts2 h.lbB h.geB hg hat hown, h.li.lc, hF h.li.par, below_grown h.li.be h.li.be.size hg (fun b e => by have := hl b e; omega)⟩, h.lc2, hF h.par2⟩
  · rw [hg.block _ (bs_lt h.li.me) (fun e => by have := hl _ e.symm; omega)]; exact h.li.me
  · rw [hg.block _ (bs_lt h.li.res) (fun e => by have := hl _ e.symm; omega)]; exact h.li.res
set_option maxHeartbeats 2000000 in
/-- Behind the store. -/
theorem LA.store (h : LA w P s A c lb cap l ds s2 A2 c2 W) : LI w P s2 A2 c2 lb cap l ds ((((((((W.setCell ⟨w.heap.size, 0, none⟩ (.int .i64 s2.m)).setCell ⟨w.heap.size, 1, none⟩ (.int .i64 s2.n1)).setCell ⟨w.heap.size, 2, none⟩ (.int .i64 s2.n2)).setCell ⟨w.heap.size, 3, none⟩ (.int .i64 s2.n3)).setCell ⟨w.heap.size, 4, none⟩ (.slice A2 s2.ps.length c2)).setCell ⟨w.heap.size, 5, none⟩ (.int .i64 s2.num)).setCell ⟨w.heap.size, 6, none⟩ (.bool s2.q)).setCell ⟨w.heap.size, 7, none⟩ (.bool s2.r)) := by
  have hm := h.li.me
  have hr := h.li.res
  unfold esC at hm
  refine ⟨?_, ?_, ?_, h.lc2, ?_, ?_⟩
  · unfold esC
    (apply bs_eq; (case h => (repeat (first | (with_reducible assumption) | (with_reducible apply bs_same) | (with_reducible apply bs_far; case hp => (dsimp only; omega)) | (with_reducible apply bs_drew) | (with_reducible apply bs_drewN) | (with_reducible apply bs_new; (first | (with_reducible rfl) | (simp; done))) | (with_reducible apply bs_alloc) | (with_reducible apply bs_below; (case hb => with_reducible assumption); (case hB => first | omega | (simp; omega) | (simp; done)))))); (case e => rfl))
  · repeat (with_reducible apply bs_far; case hp => (dsimp only; omega))
    exact hr
  · repeat (with_reducible refine ActsL.far ?_ (by dsimp only; omega) _)
    exact h.li.acts
  · repeat (with_reducible refine Kd.F_far ?_ (fun k hk => by have := hk.1; dsimp only; omega) _)
    exact h.par2
  · repeat (with_reducible refine be_set ?_ (by dsimp only; omega))
    exact h.li.be
end
end Go.Proofs.Ytiahfgcfgpakiaa.EscaVal


