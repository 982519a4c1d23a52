/- A region that draws its order, parted in two: the operations ahead of number n in whatever order, those from n on one behind the other: a plain theorem about the model, where each operation from n on waits for all ahead of it. -/
import Derived.Orders
import Derived.Deep.RegionHeld3
import Derived.Tactics
import Derived.KernelRfl
namespace Go.Proofs.Ytlkejpdclnbcoaa.Split
open Go
set_option linter.unusedVariables false
section
variable {P : Program} {md : Region.Mode} {Q : Exit → Act → World → Prop}
def deps (md : Region.Mode) (ops : Array Oper) (j : Nat) : List Nat := match ops[j]? with
  | some o => (o.after.toList.filter (Region.binds md)).map (·.on)
  | none => []
def guardOn (o : Oper) : Nat := match o.guard with
  | some (g, _) => g
  | none => 0
/-- Each operation waits for earlier ones alone; the n-th waits, through others, for all ahead of it; each behind it for the one ahead of it; a guard ahead of n is ahead of n. -/
def splitB (md : Region.Mode) (ops : Array Oper) (n ex : Nat) : Bool :=
  (List.range ops.size).all (fun j => (deps md ops j).all (· < j)) &&
  (List.range n).all (fun i => i == ex || (List.range n).any (fun k => i < k && (deps md ops k).contains i) || (deps md ops n).contains i) &&
  (List.range ops.size).all (fun j => j ≤ n || (deps md ops j).contains (j - 1)) &&
  (List.range n).all (fun i => match ops[i]? with | some o => guardOn o < n | none => false) && decide (0 < n) && decide (n < ops.size)
/-- What stands behind the first part. -/
def TailPost (P : Program) (ops : Array Oper) (Q : Exit → Act → World → Prop) (tl : List Oper) : Exit → Act → World → Prop
  | .normal, a, w => wpList P ops Q tl a w
  | e, a, w => Q e a w
theorem tail_lets {ops : Array Oper} {tl : List Oper} (h : LetsOut (TailPost P ops Q tl)) : LetsOut Q := h
theorem ready_iff {ops : Array Oper} {listed : Array Bool} {j : Nat} : j ∈ Region.ready md ops listed ↔ listed.getD j true = false ∧ (ops[j]?).isSome = true ∧ ∀ i ∈ deps md ops j, listed.getD i false = true := by
  rw [mem_ready]
  unfold deps
  constructor
  · rintro ⟨h0, o, ho, h⟩
    refine ⟨h0, by rw [ho]; rfl, fun i hi => ?_⟩
    rw [ho] at hi
    simp only [List.mem_map, List.mem_filter] at hi
    obtain ⟨e, ⟨he, hb⟩, rfl⟩ := hi
    exact h e (Array.mem_toList_iff.1 he) hb
  · rintro ⟨h0, hs, h⟩
    obtain ⟨o, ho⟩ := Option.isSome_iff_exists.1 hs
    refine ⟨h0, o, ho, fun e he hb => h e.on ?_⟩
    rw [ho]
    exact List.mem_map.2 ⟨e, List.mem_filter.2 ⟨Array.mem_toList_iff.2 he, hb⟩, rfl⟩
structure SplitAt (md : Region.Mode) (ops : Array Oper) (n ex : Nat) : Prop where
  low : ∀ j, ∀ i ∈ deps md ops j, i < j
  seal_ : ∀ i, i < n → i ≠ ex → (∃ k, k < n ∧ i < k ∧ i ∈ deps md ops k) ∨ i ∈ deps md ops n
  chain : ∀ j, n < j → j < ops.size → j - 1 ∈ deps md ops j
  guards : ∀ i o, i < n → ops[i]? = some o → guardOn o < n
  pos : 0 < n
  lt : n < ops.size
theorem deps_none {ops : Array Oper} {j : Nat} (h : ops.size ≤ j) : deps md ops j = [] := by
  unfold deps
  rw [Array.getElem?_eq_none h]
theorem splitAt_of {ops : Array Oper} {n ex : Nat} (h : splitB md ops n ex = true) : SplitAt md ops n ex := by
  simp only [splitB, Bool.and_eq_true, List.all_eq_true, List.any_eq_true, List.mem_range, Bool.or_eq_true, decide_eq_true_eq, List.contains_iff_mem] at h
  obtain ⟨⟨⟨⟨⟨h1, h2⟩, h3⟩, h4⟩, h5⟩, h6⟩ := h
  refine ⟨fun j i hi => ?_, fun i hi hex => ?_, fun j hj hs => ?_, fun i o hi ho => ?_, h5, h6⟩
  · rcases Nat.lt_or_ge j ops.size with hj | hj
    · exact h1 j hj i hi
    · rw [deps_none hj] at hi; cases hi
  · rcases h2 i hi with (h0 | ⟨k, hk, h7, h8⟩) | h7
    · exact absurd (by simpa using h0) hex
    · exact .inl ⟨k, hk, h7, h8⟩
    · exact .inr h7
  · rcases h3 j hs with h7 | h7
    · omega
    · exact h7
  · have := h4 i hi
    rw [ho] at this
    simpa using this
/-- What is listed holds what it waits for. -/
def Down (md : Region.Mode) (ops : Array Oper) (listed : Array Bool) : Prop := ∀ j, listed.getD j false = true → ∀ i ∈ deps md ops j, listed.getD i false = true
theorem down_step {ops : Array Oper} {listed : Array Bool} {j : Nat} (h : Down md ops listed) (hj : j ∈ Region.ready md ops listed) : Down md ops (listed.setIfInBounds j true) := by
  intro k hk i hi
  by_cases e : j = k
  · subst e; exact getD_set_true ((ready_iff.1 hj).2.2 i hi)
  · rw [getD_set_ne false e] at hk
    exact getD_set_true (h k hk i hi)
theorem all_listed {ops : Array Oper} {listed : Array Bool} {n ex : Nat} (s : SplitAt md ops n ex) (hx : ∀ i, i < n → i = ex → listed.getD i false = true) (hd : Down md ops listed) (hn : ∀ i ∈ deps md ops n, listed.getD i false = true) : ∀ d i, i < n → n - i ≤ d → listed.getD i false = true
  | 0, i, hi, h => by omega
  | d + 1, i, hi, h => by
    by_cases hex : i = ex
    · exact hx i hi hex
    rcases s.seal_ i hi hex with ⟨k, hk, hik, hm⟩ | hm
    · exact hd k (all_listed s hx hd hn d k hk (by omega)) i hm
    · exact hn i hm
theorem Oper.wp_tail {ops : Array Oper} {tl : List Oper} {o : Oper} {a : Act} {w : World} {K : Act → World → Prop} (h : o.wp P a w K (TailPost P ops Q tl)) : o.wp P a w K Q := by
  unfold Oper.wp at *
  generalize (execOp a.eval o).run P w = r at *
  cases r with
  | ok x w' => cases x <;> first | exact h | (refine Calls.mono h fun e w'' he => ?_; cases e <;> exact he)
  | halt x w' => cases x <;> exact h
theorem wanted_head {ops hd : Array Oper} {n : Nat} (hh : ∀ i, i < n → hd[i]? = ops[i]?) {o : Oper} (hg : guardOn o < n) (a : Act) : Region.wanted o (yielded hd a.tmps) = Region.wanted o (yielded ops a.tmps) := by
  unfold Region.wanted
  unfold guardOn at hg
  cases h : o.guard with
  | none => rfl
  | some x =>
    obtain ⟨g, b⟩ := x
    rw [h] at hg
    simp only at hg ⊢
    unfold yielded
    rw [hh g hg]
/-- The second part: one behind the other. -/
theorem tail_any {ops : Array Oper} {n ex : Nat} (s : SplitAt md ops n ex) : ∀ (tl : List Oper) (k : Nat) (listed : Array Bool) (a : Act) (w : World) (fuel : Nat), n ≤ k → (∀ j, tl[j]? = ops[k + j]?) → listed.size = ops.size →
    (∀ i, i < k → i < ops.size → listed.getD i false = true) → (∀ i, k ≤ i → i < ops.size → listed.getD i true = false) → tl.length ≤ fuel → wpList P ops Q tl a w → wpAny P md ops Q fuel listed a w
  | [], k, listed, a, w, fuel, hk, ht, hs, h1, h2, hf, h => by
    have h0 : ops.size ≤ k := by
      have := ht 0
      simp at this
      exact this
    refine wpAny_done ?_ h fuel
    refine List.eq_nil_iff_forall_not_mem.2 fun j hj => ?_
    obtain ⟨h3, h4, _⟩ := ready_iff.1 hj
    obtain ⟨o, ho⟩ := Option.isSome_iff_exists.1 h4
    have hlt := (Array.getElem?_eq_some_iff.1 ho).1
    have h5 := h1 j (by omega) hlt
    have h6 : listed.getD j true = true := by
      have hl : j < listed.size := by omega
      simp only [Array.getD, hl, dif_pos] at h5 ⊢
      exact h5
    rw [h6] at h3; cases h3
  | o :: tl, k, listed, a, w, 0, hk, ht, hs, h1, h2, hf, h => by simp at hf
  | o :: tl, k, listed, a, w, fuel + 1, hk, ht, hs, h1, h2, hf, h => by
    have ho : ops[k]? = some o := by simpa using (ht 0).symm
    have hlt := (Array.getElem?_eq_some_iff.1 ho).1
    have hr : k ∈ Region.ready md ops listed := ready_iff.2 ⟨h2 k (Nat.le_refl _) hlt, by rw [ho]; rfl, fun i hi => h1 i (s.low k i hi) (by have := s.low k i hi; omega)⟩
    refine ⟨fun e => (by rw [e] at hr; cases hr), fun j hj => ?_⟩
    obtain ⟨h3, h4, h5⟩ := ready_iff.1 hj
    obtain ⟨oj, hoj⟩ := Option.isSome_iff_exists.1 h4
    have hjl := (Array.getElem?_eq_some_iff.1 hoj).1
    have hjk : j = k := by
      rcases Nat.lt_trichotomy j k with hlt2 | he | hgt
      · have h6 := h1 j hlt2 hjl
        have h7 : listed.getD j true = true := by
          have hl : j < listed.size := by omega
          simp only [Array.getD, hl, dif_pos] at h6 ⊢
          exact h6
        rw [h7] at h3; cases h3
      · exact he
      · have h6 := h5 (j - 1) (s.chain j (by omega) hjl)
        have h7 := h2 (j - 1) (by omega) (by omega)
        have hl : j - 1 < listed.size := by omega
        simp only [Array.getD, hl, dif_pos] at h6 h7
        rw [h6] at h7; cases h7
    subst hjk
    have hnext : ∀ a' w', wpList P ops Q tl a' w' → wpAny P md ops Q fuel (listed.setIfInBounds j true) a' w' := fun a' w' h' => by
      refine tail_any s tl (j + 1) _ a' w' fuel (by omega) (fun i => by have := ht (i + 1); simpa [Nat.add_assoc, Nat.add_comm 1 i] using this) (by simpa using hs) (fun i hi hil => ?_) (fun i hi hil => ?_) (by simpa using hf) h'
      · by_cases e : j = i
        · subst e
          have hl : j < listed.size := by omega
          simp [hl]
        · rw [getD_set_ne false e]; exact h1 i (by omega) hil
      · rw [getD_set_ne true (by omega)]; exact h2 i (by omega) hil
    unfold wpList at h
    unfold wpOp
    simp only [ho]
    split
    · rename_i hw
      rw [if_pos hw] at h
      exact h.imp (Oper.wp_mono hnext) id
    · rename_i hw
      rw [if_neg hw] at h
      exact hnext _ _ h
/-- The first part. -/
theorem head_any {ops hd : Array Oper} {tl : List Oper} {n ex : Nat} (s : SplitAt md ops n ex) (hh : ∀ i, i < n → hd[i]? = ops[i]?) (hn : hd.size = n) (ht : ∀ j, tl[j]? = ops[n + j]?) (htl : tl.length + n = ops.size) :
    ∀ (fuel : Nat) (lh lo : Array Bool) (a : Act) (w : World), lh.size = n → lo.size = ops.size → (∀ i, i < n → lo[i]? = lh[i]?) → (∀ i, n ≤ i → i < ops.size → lo.getD i true = false) → Down md ops lo → (∀ i, i < n → i = ex → lo.getD i false = true) →
      wpAny P md hd (TailPost P ops Q tl) fuel lh a w → wpAny P md ops Q (fuel + tl.length) lo a w := by
  have hdep : ∀ i, i < n → deps md hd i = deps md ops i := fun i hi => by unfold deps; rw [hh i hi]
  have key : ∀ (lh lo : Array Bool), lh.size = n → lo.size = ops.size → (∀ i, i < n → lo[i]? = lh[i]?) → ∀ i, i < n → (i ∈ Region.ready md ops lo ↔ i ∈ Region.ready md hd lh) := by
    intro lh lo h1 h2 h3 i hi
    have hg : ∀ (j : Nat) (d : Bool), j < n → lo.getD j d = lh.getD j d := fun j d hj => by
      have := h3 j hj
      rw [Array.getD_eq_getD_getElem?, Array.getD_eq_getD_getElem?, this]
    rw [ready_iff, ready_iff, hg i true hi, hh i hi, hdep i hi]
    constructor
    · rintro ⟨a, b, c⟩; exact ⟨a, b, fun k hk => by rw [← hg k false (by have := s.low i k hk; omega)]; exact c k hk⟩
    · rintro ⟨a, b, c⟩; exact ⟨a, b, fun k hk => by rw [hg k false (by have := s.low i k hk; omega)]; exact c k hk⟩
  have all_of_nil : ∀ (lh lo : Array Bool), lh.size = n → lo.size = ops.size → (∀ i, i < n → lo[i]? = lh[i]?) → Region.ready md hd lh = [] → ∀ i, i < n → lo.getD i false = true := by
    intro lh lo h1 h2 h3 h4 i
    induction i using Nat.strongRecOn with
    | _ i ih =>
      intro hi
      cases hc : lo.getD i false with
      | true => rfl
      | false =>
        have hl : i < lo.size := by have := s.lt; omega
        have ht : lo.getD i true = false := by
          simp only [Array.getD, hl, dif_pos] at hc ⊢; exact hc
        have hr : i ∈ Region.ready md ops lo := ready_iff.2 ⟨ht, by rw [Array.getElem?_eq_getElem (by omega)]; rfl, fun k hk => ih k (s.low i k hk) (by have := s.low i k hk; omega)⟩
        have := (key lh lo h1 h2 h3 i hi).1 hr
        rw [h4] at this; cases this
  intro fuel
  induction fuel with
  | zero =>
    intro lh lo a w h1 h2 h3 h4 h5 hx h
    exact tail_any s tl n lo a w _ (Nat.le_refl _) ht h2 (fun i hi _ => all_of_nil lh lo h1 h2 h3 h.1 i hi) h4 (by omega) h.2
  | succ fuel ih =>
    intro lh lo a w h1 h2 h3 h4 h5 hx h
    by_cases hr : Region.ready md hd lh = []
    · exact tail_any s tl n lo a w _ (Nat.le_refl _) ht h2 (fun i hi _ => all_of_nil lh lo h1 h2 h3 hr i hi) h4 (by omega) (h.1 hr)
    · have hsub : ∀ j, j ∈ Region.ready md ops lo → j < n := fun j hj => by
        obtain ⟨q1, q2, q3⟩ := ready_iff.1 hj
        obtain ⟨oj, hoj⟩ := Option.isSome_iff_exists.1 q2
        have hjl := (Array.getElem?_eq_some_iff.1 hoj).1
        rcases Nat.lt_trichotomy j n with hlt | he | hgt
        · exact hlt
        · subst he
          exfalso
          apply hr
          refine List.eq_nil_iff_forall_not_mem.2 fun k hk => ?_
          have hkn : k < j := by
            obtain ⟨_, r2, _⟩ := ready_iff.1 hk
            obtain ⟨ok, hok⟩ := Option.isSome_iff_exists.1 r2
            have := (Array.getElem?_eq_some_iff.1 hok).1
            omega
          have r1 := (ready_iff.1 ((key lh lo h1 h2 h3 k hkn).2 hk)).1
          have r2 := all_listed s hx h5 q3 j k hkn (by omega)
          have hl : k < lo.size := by have := s.lt; omega
          simp only [Array.getD, hl, dif_pos] at r1 r2
          rw [r1] at r2; cases r2
        · exfalso
          have h6 := q3 (j - 1) (s.chain j hgt hjl)
          have h7 := h4 (j - 1) (by omega) (by omega)
          have hl : j - 1 < lo.size := by omega
          simp only [Array.getD, hl, dif_pos] at h6 h7
          rw [h6] at h7; cases h7
      have hne : Region.ready md ops lo ≠ [] := fun e => by
        apply hr
        refine List.eq_nil_iff_forall_not_mem.2 fun k hk => ?_
        have hkn : k < n := by
          obtain ⟨_, r2, _⟩ := ready_iff.1 hk
          obtain ⟨ok, hok⟩ := Option.isSome_iff_exists.1 r2
          have := (Array.getElem?_eq_some_iff.1 hok).1
          omega
        have := (key lh lo h1 h2 h3 k hkn).2 hk
        rw [e] at this; cases this
      rw [show fuel + 1 + tl.length = fuel + tl.length + 1 by omega]
      refine ⟨fun e => absurd e hne, fun j hj => ?_⟩
      have hjn := hsub j hj
      have hop := h.2 j ((key lh lo h1 h2 h3 j hjn).1 hj)
      have hnext : ∀ a' w', wpAny P md hd (TailPost P ops Q tl) fuel (lh.setIfInBounds j true) a' w' → wpAny P md ops Q (fuel + tl.length) (lo.setIfInBounds j true) a' w' := fun a' w' h' => by
        refine ih _ _ a' w' (by simpa using h1) (by simpa using h2) (fun i hi => ?_) (fun i hi hil => ?_) (down_step h5 hj) (fun i hi e => getD_set_true (hx i hi e)) h'
        · by_cases e : j = i
          · subst e
            have q1 : j < lo.size := by have := s.lt; omega
            have q2 : j < lh.size := by omega
            simp [q1, q2]
          · rw [Array.getElem?_setIfInBounds_ne e, Array.getElem?_setIfInBounds_ne e]; exact h3 i hi
        · rw [getD_set_ne true (by omega)]; exact h4 i hi hil
      unfold wpOp at hop ⊢
      rw [hh j hjn] at hop
      cases ho : ops[j]? with
      | none => rw [ho] at hop; exact hnext _ _ hop
      | some o =>
        rw [ho] at hop
        simp only at hop ⊢
        rw [wanted_head hh (s.guards j o hjn ho)] at hop
        split
        · rename_i hw
          rw [if_pos hw] at hop
          exact hop.imp (fun x => Oper.wp_mono hnext (Oper.wp_tail x)) (fun x => ⟨x.1, tail_lets x.2⟩)
        · rename_i hw
          rw [if_neg hw] at hop
          exact hnext _ _ hop
/-- Operation number ex (which waits for nothing) taken first; then the first part, in its own words; then the rest one behind the other. -/
theorem wp_region_split_ex {id n ex : Nat} {l : List Oper} {a : Act} {w : World} {ox : Oper} {vx : Value} (hm : P.follows .mixedOrders = true) (hB : splitB .any l.toArray n ex = true) (hex : ex < n)
    (hox : l[ex]? = some ox) (hns : Region.noSelect l.toArray = true) (hf : Region.free .any l.toArray (Array.replicate l.length false) ex = true) (hr : (Region.ready .any l.toArray (Array.replicate l.length false)).contains ex = true)
    (hQ : ∀ c a w, Q (.panic c) (a.put ox.dst vx) w → Q (.panic c) a w) (hy : Yields P l.toArray ox vx a)
    (h : wpAny P .any (l.take n).toArray (TailPost P l.toArray Q (l.drop n)) (n - 1) ((Array.replicate n false).setIfInBounds ex true) (a.put ox.dst vx) { w with drawn := w.drawn + 1 }) : (Code.region id l.toArray true).wp P Q a w := by
  have s := splitAt_of hB
  have hlt : n < l.length := by simpa using s.lt
  have hd0 : deps .any l.toArray ex = [] := by
    have := (ready_iff.1 (by simpa using hr)).2.2
    refine List.eq_nil_iff_forall_not_mem.2 fun i hi => ?_
    have h9 := this i hi
    have h8 := s.low ex i hi
    have h10 : i < l.length := by omega
    simp [h10] at h9
  refine wp_region_any hm ?_
  have hz : l.toArray.size = (l.length - 1) + 1 := by simp; omega
  rw [hz]
  refine wpAny_take (i := ex) (oi := ox) (v := vx) (by simpa using hox) hns (by rw [← hz]; simpa using hf) (by rw [← hz]; simpa using hr) hQ hy ?_
  rw [← hz]
  have := head_any (hd := (l.take n).toArray) (tl := l.drop n) s (fun i hi => by simp [hi]) (by simp; omega) (fun j => by simp) (by simp; omega) (n - 1) ((Array.replicate n false).setIfInBounds ex true) ((Array.replicate l.length false).setIfInBounds ex true) (a.put ox.dst vx) { w with drawn := w.drawn + 1 } (by simp) (by simp)
    (fun i hi => by
      by_cases e : ex = i
      · subst e
        have q1 : ex < l.length := by omega
        simp [hi, q1]
      · rw [Array.getElem?_setIfInBounds_ne e, Array.getElem?_setIfInBounds_ne e]
        simp [hi, show i < l.length by omega]) (fun i hi hi2 => by
      have h3 : i < l.length := by simpa using hi2
      rw [getD_set_ne true (by omega)]
      simp [h3]) (fun j hj i hi => by
      exfalso
      by_cases e : ex = j
      · subst e; rw [hd0] at hi; cases hi
      · rw [getD_set_ne false e] at hj
        by_cases hjl : j < l.length <;> simp [hjl] at hj) (fun i hi e => by
      subst e
      have q1 : i < l.length := by omega
      simp [q1]) h
  simp only [List.length_drop] at this
  rw [show n - 1 + (l.length - n) = l.length - 1 by omega] at this
  simpa using this
end
section
variable {P : Program} {md : Region.Mode} {l : List Oper} {Q : Exit → Act → World → Prop} {S : World → Prop}
theorem take_ {i : Nat} {oi : Oper} {v : Value} {fuel : Nat} {listed : Array Bool} {a : Act} {w : World} (hi : l[i]? = some oi)
    (hs : Region.noSelect l.toArray = true) (hf : Region.free md l.toArray listed i = true) (hr : (Region.ready md l.toArray listed).contains i = true)
    (hQ : ∀ c a w, Q (.panic c) (a.put oi.dst v) w → Q (.panic c) a w) (hy : YieldsIf P l.toArray S oi v a) (hS : S w)
    (h : wpAnyH P md l.toArray Q S fuel (listed.setIfInBounds i true) (a.put oi.dst v) w) : wpAnyH P md l.toArray Q S (fuel + 1) listed a w :=
  wpAnyH_take (by simpa using hi) hs hf hr hQ hy hS h
theorem cons_ {fuel : Nat} {listed : Array Bool} {a : Act} {w : World} {i : Nat} {o : Oper} {rs : List Nat} (ho : l[i]? = some o)
    (h : ∀ K' : Act → World → Prop, Shut (∀ a w, S w → (S w → wpAnyH P md l.toArray Q S fuel (listed.setIfInBounds i true) a w) → K' a w) → if Region.wanted o (yielded l.toArray a.tmps) = true then Oper.wp P o a w K' Q else K' (a.put o.dst undef) w)
    (hs : AllReadyH P md l.toArray Q S fuel listed a w rs) : AllReadyH P md l.toArray Q S fuel listed a w (i :: rs) := AllReadyH.cons (by simpa using ho) h hs
theorem nil_ {fuel : Nat} {listed : Array Bool} {a : Act} {w : World} : AllReadyH P md l.toArray Q S fuel listed a w [] := AllReadyH.nil
theorem letter_ {ops : Array Oper} {fuel : Nat} {listed : Array Bool} {a : Act} {w : World} (I : World → Prop) (h : I w) (k : ∀ w2, I w2 → wpAnyH P md ops Q S fuel listed a w2) : wpAnyH P md ops Q S fuel listed a w := k w h
end
end Go.Proofs.Ytlkejpdclnbcoaa.Split


