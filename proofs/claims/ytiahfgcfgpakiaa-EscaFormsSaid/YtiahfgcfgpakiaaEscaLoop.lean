/- What a law's loop over pieces keeps: plain theorems on worlds, without a condition of their own. -/
import Derived.Test.YtiahfgcfgpakiaaEscaInv
namespace Go.Proofs.Ytiahfgcfgpakiaa.EscaVal
open Go Go.RowKit Go.Proofs.YtiahfgcfgpakiaaKit Go.Proofs.Ytiahfgcfgpakiaa.Mem Go.Proofs.YtiahfgcfgpakiaaW.PrintWords Go.Proofs.YtiahfgcfgpakiaaW.PrintLast Go.Proofs.Ytiahfgcfgpakiaa.Split
set_option linter.unusedVariables false
set_option linter.unusedSimpArgs false
theorem lt_of_some {W : World} {k : Nat} {o : Obj} (h : W.heap[k]? = some o) : k < W.heap.size := by
  rcases Nat.lt_or_ge k W.heap.size with h1 | h1
  · exact h1
  · rw [Array.getElem?_eq_none h1] at h; cases h
theorem at_below {W W' : World} {k : Nat} {o : Obj} (hb : Below W.heap.size W W') (h : W.heap[k]? = some o) : W'.heap[k]? = some o := by rw [hb.block k (lt_of_some h)]; exact h
/-- Pieces of a row that is cut. -/
def partOf (T : List Int) (a b : Nat) : List Int := (T.take b).drop a
theorem part_len (T : List Int) {a b : Nat} (h : a ≤ b) (hb : b ≤ T.length) : (partOf T a b).length = b - a := by simp [partOf]; omega
theorem part_app (T : List Int) {a b : Nat} (h : a ≤ b) : T.take a ++ partOf T a b = T.take b := by
  unfold partOf
  have := List.take_append_drop a (T.take b)
  rw [List.take_take, Nat.min_eq_left h] at this
  exact this
theorem part_mem {T : List Int} {a b : Nat} {x : Int} (h : x ∈ partOf T a b) : x ∈ T := List.mem_of_mem_take (List.mem_of_mem_drop h)
theorem rd_part {W : World} {o o' : Option Addr} {T : List Int} {a b cap : Nat} (hr : Rd W 0 o (T.map (.int .u8))) (hcap : T.length ≤ cap) (ho : o' = if cap = a then o else o.map (·.add a)) : Rd W 0 o' ((partOf T a b).map (.int .u8)) := by
  by_cases hc : cap = a
  · have : partOf T a b = [] := by
      unfold partOf
      exact List.drop_eq_nil_of_le (by simp; omega)
    rw [this]
    exact Rd.nil _ _ _
  · rw [if_neg hc] at ho
    subst ho
    cases o with
    | none =>
      intro j v hv
      have hT : T = [] := by
        cases T with
        | nil => rfl
        | cons x xs => obtain ⟨q, e, _⟩ := hr 0 (.int .u8 x) rfl; cases e
      subst hT
      simp [partOf] at hv
    | some ad =>
      refine hr.sub (fun j v hv => ?_)
      simp only [partOf, List.getElem?_map, List.getElem?_drop, List.getElem?_take] at hv ⊢
      split at hv
      · exact hv
      · cases hv
/-- What the loops keep: the escape, the result's cells, what is asked. -/
structure LJ (w : World) (ro : Obj) (P : Nat → Prop) (s : E8) (A : Option Addr) (c : Nat) (lb : Option Nat) (cap : Nat) (l : List Act3) (ds : List ActD) (W : World) : Prop where
  me : W.heap[w.heap.size]? = some (.cells (esC s A c) 33 (0, 0))
  res : W.heap[w.heap.size + 1]? = some ro
  acts : ActsL W (w.heap.size + 2) lb cap l ds
  lc : s.ps.length ≤ c
  par : Kd.F (Kd.int .i64) W (fun k => ((P k ∧ k < w.heap.size) ∨ w.heap.size + 2 ≤ k) ∧ some k ≠ lb) A s.ps.length s.ps
  be : Below w.heap.size w W
section
variable {w W W' : World} {ro : Obj} {P : Nat → Prop} {s : E8} {A : Option Addr} {c : Nat} {lb : Option Nat} {cap : Nat} {l : List Act3} {ds : List ActD}
theorem LJ.below (h : LJ w ro P s A c lb cap l ds W) (hb : Below W.heap.size W W') : LJ w ro P s A c lb cap l ds W' :=
  ⟨bs_below hb (bs_lt h.me) h.me, at_below hb h.res, h.acts.below hb, h.lc, Kd.F_below h.par hb, be_call hb h.be.size h.be⟩
theorem LJ.V (h : LJ w ro P s A c lb cap l ds W) : Kd.V (Kd.int .i64) 3 W W.heap.size (fun k => (((P k ∧ k < w.heap.size) ∨ w.heap.size + 2 ≤ k) ∧ some k ≠ lb) ∧ k < W.heap.size) (.slice A s.ps.length c) s.ps := ⟨A, c, rfl, h.lc, Kd.F_bound h.par⟩
theorem LJ.sz (h : LJ w ro P s A c lb cap l ds W) : w.heap.size + 2 ≤ W.heap.size := by have := lt_of_some h.res; omega
/-- What stands behind the call: the next escape in a block of its own. -/
structure LM (w : World) (ro : Obj) (P : Nat → Prop) (s : E8) (A : Option Addr) (c : Nat) (lb : Option Nat) (cap : Nat) (l : List Act3) (ds : List ActD) (G : Nat) (s2 : E8) (A2 : Option Addr) (c2 : Nat) (lb2 : Option Nat) (cap2 : Nat) (l2 : List Act3) (ds2 : List ActD) (B : Nat) (W : World) : Prop where
  li : LJ w ro P s A c lb cap l ds W
  nxt : W.heap[G]? = some (.cells (esC s2 A2 c2) 33 (0, 0))
  geG : B ≤ G
  geB : w.heap.size + 2 ≤ B
  lbB : ∀ b, lb = some b → b < B
  acts2 : ActsL W B lb2 cap2 l2 ds2
  lc2 : s2.ps.length ≤ c2
  par2 : Kd.F (Kd.int .i64) W (fun k => ((P k ∧ k < w.heap.size) ∨ w.heap.size + 2 ≤ k) ∧ some k ≠ lb) A2 s2.ps.length s2.ps
variable {G : Nat} {s2 : E8} {A2 : Option Addr} {c2 : Nat} {lb2 : Option Nat} {cap2 : Nat} {l2 : List Act3} {ds2 : List ActD} {B : Nat}
theorem LM.below (h : LM w ro P s A c lb cap l ds G s2 A2 c2 lb2 cap2 l2 ds2 B W) (hb : Below W.heap.size W W') : LM w ro P s A c lb cap l ds G s2 A2 c2 lb2 cap2 l2 ds2 B W' :=
  ⟨h.li.below hb, bs_below hb (bs_lt h.nxt) h.nxt, h.geG, h.geB, h.lbB, h.acts2.below hb, h.lc2, Kd.F_below h.par2 hb⟩
/-- Behind the call. -/
theorem LM.of {W1 W2 : World} (h : LJ w ro P s A c lb cap l ds W) (hb : Below W.heap.size W W1) (hlc : s2.ps.length ≤ c2)
    (hF : Kd.F (Kd.int .i64) W1 (fun k => (((((P k ∧ k < w.heap.size) ∨ w.heap.size + 2 ≤ k) ∧ some k ≠ lb) ∧ k < W.heap.size) ∨ W.heap.size ≤ k) ∧ some k ≠ lb2) A2 s2.ps.length s2.ps)
    (ha : ActsL W1 W.heap.size lb2 cap2 l2 ds2) (hb2 : Below W1.heap.size W1 W2) (hn : W2.heap[G]? = some (.cells (esC s2 A2 c2) 33 (0, 0))) (hG : W.heap.size ≤ G) :
    LM w ro P s A c lb cap l ds G s2 A2 c2 lb2 cap2 l2 ds2 W.heap.size W2 := by
  have hl : ∀ b, lb = some b → b < W.heap.size := fun b e => by have h2 := h.acts.own; rw [e] at h2; exact (own_base h2).2
  refine ⟨(h.below hb).below hb2, hn, hG, h.sz, hl, ha.below hb2, hlc, Kd.F_mono (Kd.F_below hF hb2) (fun k hk => ?_)⟩
  rcases hk.1 with h1 | h1
  · exact h1.1
  · exact ⟨.inr (Nat.le_trans h.sz h1), fun e => by have := hl k e.symm; omega⟩
/-- Behind the append. -/
structure LB (w : World) (ro : Obj) (P : Nat → Prop) (s : E8) (A : Option Addr) (c : Nat) (lb : Option Nat) (cap : Nat) (l : List Act3) (ds : List ActD) (s2 : E8) (A2 : Option Addr) (c2 : Nat) (W : World) : Prop where
  li : LJ w ro P s A c lb cap l ds W
  lc2 : s2.ps.length ≤ c2
  par2 : Kd.F (Kd.int .i64) W (fun k => ((P k ∧ k < w.heap.size) ∨ w.heap.size + 2 ≤ k) ∧ some k ≠ lb) A2 s2.ps.length s2.ps
theorem LM.append {lb' : Option Nat} {cap' : Nat} (h : LM w ro P s A c lb cap l ds G s2 A2 c2 lb2 cap2 l2 ds2 B W) (hg : W.grownBy W' lb) (hat : lb' = lb ∨ lb' = some W.heap.size) (hown : Own W' (w.heap.size + 2) 24 3 lb' (l.length + l2.length) cap' (flatD ds ++ flatD ds2)) :
    LB w ro P s A c lb' cap' (l ++ l2) (ds ++ ds2) s2 A2 c2 W' := by
  have hl : ∀ b, lb = some b → w.heap.size + 2 ≤ b := fun b e => by have h2 := h.li.acts.own; rw [e] at h2; exact (own_base h2).1
  have hF : ∀ {A3 : Option Addr} {xs : List Int}, Kd.F (Kd.int .i64) W (fun k => ((P k ∧ k < w.heap.size) ∨ w.heap.size + 2 ≤ k) ∧ some k ≠ lb) A3 xs.length xs → Kd.F (Kd.int .i64) W' (fun k => ((P k ∧ k < w.heap.size) ∨ w.heap.size + 2 ≤ k) ∧ some k ≠ lb') A3 xs.length xs := fun h3 => by
    refine Kd.F_mono (Kd.F_grown (Kd.F_bound h3) hg (fun k hk => hk.1.2)) (fun k hk => ⟨hk.1.1, ?_⟩)
    rcases hat with e | e
    · rw [e]; exact hk.1.2
    · rw [e]; intro e2; cases e2; exact absurd hk.2 (Nat.lt_irrefl _)
  refine ⟨⟨?_, ?_, h.li.acts.append h.acts2 h.lbB h.geB hg hat hown, h.li.lc, hF h.li.par, below_grown h.li.be h.li.be.size hg (fun b e => by have := hl b e; omega)⟩, h.lc2, hF h.par2⟩
  · rw [hg.block _ (bs_lt h.li.me) (fun e => by have := hl _ e.symm; omega)]; exact h.li.me
  · rw [hg.block _ (lt_of_some h.li.res) (fun e => by have := hl _ e.symm; omega)]; exact h.li.res
set_option maxHeartbeats 2000000 in
/-- Behind the store. -/
theorem LB.store (h : LB w ro P s A c lb cap l ds s2 A2 c2 W) : LJ w ro P s2 A2 c2 lb cap l ds ((((((((W.setCell ⟨w.heap.size, 0, none⟩ (.int .i64 s2.m)).setCell ⟨w.heap.size, 1, none⟩ (.int .i64 s2.n1)).setCell ⟨w.heap.size, 2, none⟩ (.int .i64 s2.n2)).setCell ⟨w.heap.size, 3, none⟩ (.int .i64 s2.n3)).setCell ⟨w.heap.size, 4, none⟩ (.slice A2 s2.ps.length c2)).setCell ⟨w.heap.size, 5, none⟩ (.int .i64 s2.num)).setCell ⟨w.heap.size, 6, none⟩ (.bool s2.q)).setCell ⟨w.heap.size, 7, none⟩ (.bool s2.r)) := by
  have hm := h.li.me
  have hr := h.li.res
  unfold esC at hm
  refine ⟨?_, ?_, ?_, h.lc2, ?_, ?_⟩
  · unfold esC
    (apply bs_eq; (case h => (repeat (first | (with_reducible assumption) | (with_reducible apply bs_same) | (with_reducible apply bs_far; case hp => (dsimp only; omega)) | (with_reducible apply bs_drew) | (with_reducible apply bs_drewN) | (with_reducible apply bs_new; (first | (with_reducible rfl) | (simp; done))) | (with_reducible apply bs_alloc) | (with_reducible apply bs_below; (case hb => with_reducible assumption); (case hB => first | omega | (simp; omega) | (simp; done)))))); (case e => rfl))
  · repeat (with_reducible apply bs_far; case hp => (dsimp only; omega))
    exact hr
  · repeat (with_reducible refine ActsL.far ?_ (by dsimp only; omega) _)
    exact h.li.acts
  · repeat (with_reducible refine Kd.F_far ?_ (fun k hk => by have := hk.1; dsimp only; omega) _)
    exact h.par2
  · repeat (with_reducible refine be_set ?_ (by dsimp only; omega))
    exact h.li.be
end
theorem bytes_len (l : List Int) (n : Nat) (hn : (bytesP l).length = n) (k : Nat) (hk : l.length = k) (A : Option Addr) (c : Nat) (w : World) (hr : Rd w 0 A (l.map (.int .i64))) :
    Calls Try.prog 16 #[.slice A k c] w fun e w' => ∃ (lb : Option Nat) (cap : Nat) (o : Option Addr), e = .returned (.slice o n cap) ∧ sl lb n cap = .slice o n cap ∧ Own w' w.heap.size 5 1 lb n cap ((bytesP l).map (.int .u8)) ∧ Below w.heap.size w w' := by
  subst hn hk
  refine (bytes_val l A c w hr).mono fun e w' ⟨lb, cap, h1, h2, h3⟩ => ?_
  exact ⟨lb, cap, _, h1, rfl, h2, h3⟩
end Go.Proofs.Ytiahfgcfgpakiaa.EscaVal


