/- A region that draws its order, by facts: each operation brings about a fact of its own place that no other operation takes away; so whatever the order, all facts hold at its end: plain theorems about the model. -/
import Derived.Test.YtiahfgcfgpakiaaSplit
import Derived.Below
import Derived.RowKit
namespace Go.Proofs.Ytiahfgcfgpakiaa.Facts
open Go Go.RowKit Go.Proofs.Ytiahfgcfgpakiaa.Split
set_option linter.unusedVariables false
set_option linter.unusedSimpArgs false
def dstOf (ops : Array Oper) (i : Nat) : Option Tmp := (ops[i]?).bind (·.dst)
def putAll (a : Act) : List (Option Tmp × Value) → Act
  | [] => a
  | (d, v) :: r => putAll (a.put d v) r
theorem put_defers (a : Act) (d : Option Tmp) (v : Value) : (a.put d v).defers = a.defers := by cases d <;> rfl
theorem put_size (a : Act) (d : Option Tmp) (v : Value) : (a.put d v).tmps.size = a.tmps.size := by cases d <;> simp [Act.put]
theorem put_get (a : Act) (t : Tmp) (v : Value) (s : Nat) : (a.put (some t) v).tmps[s]? = if t = s ∧ s < a.tmps.size then some v else a.tmps[s]? := by
  simp only [Act.put]
  rw [Array.getElem?_setIfInBounds]
  by_cases h : t = s
  · subst h
    by_cases h2 : t < a.tmps.size
    · simp [h2]
    · simp [h2]
  · simp [h]
theorem putAll_defers (L : List (Option Tmp × Value)) (a : Act) : (putAll a L).defers = a.defers := by
  induction L generalizing a with
  | nil => rfl
  | cons x L ih => obtain ⟨d, v⟩ := x; rw [putAll, ih, put_defers]
theorem putAll_size (L : List (Option Tmp × Value)) (a : Act) : (putAll a L).tmps.size = a.tmps.size := by
  induction L generalizing a with
  | nil => rfl
  | cons x L ih => obtain ⟨d, v⟩ := x; rw [putAll, ih, put_size]
theorem putAll_old (L : List (Option Tmp × Value)) (a : Act) (s : Nat) (h : ∀ x ∈ L, x.1 ≠ some s) : (putAll a L).tmps[s]? = a.tmps[s]? := by
  induction L generalizing a with
  | nil => rfl
  | cons x L ih =>
    obtain ⟨d, v⟩ := x
    rw [putAll, ih _ (fun y hy => h y (List.mem_cons_of_mem _ hy))]
    have h1 := h (d, v) List.mem_cons_self
    cases d with
    | none => rfl
    | some t => rw [put_get, if_neg (fun e => h1 (by rw [e.1]))]
theorem putAll_new (L : List (Option Tmp × Value)) (a : Act) (s : Nat) (v : Value) (hs : s < a.tmps.size) (hp : L.Pairwise (fun x y => x.1 ≠ y.1)) (h : (some s, v) ∈ L) : (putAll a L).tmps[s]? = some v := by
  induction L generalizing a with
  | nil => cases h
  | cons x L ih =>
    obtain ⟨d, u⟩ := x
    rw [putAll]
    rw [List.pairwise_cons] at hp
    rcases List.mem_cons.1 h with e | e
    · cases e
      rw [putAll_old L _ s (fun y hy e2 => hp.1 y hy e2.symm), put_get, if_pos ⟨rfl, hs⟩]
    · exact ih _ (by rw [put_size]; exact hs) hp.2 e
theorem count_lt {p q : Nat → Bool} : ∀ (l : List Nat), (∀ x ∈ l, q x = true → p x = true) → (∃ x ∈ l, p x = true ∧ q x = false) → l.countP q < l.countP p
  | [], _, h => by obtain ⟨x, hx, _⟩ := h; cases hx
  | y :: l, hle, h => by
    have hmono : l.countP q ≤ l.countP p := List.countP_mono_left (fun x hx => hle x (List.mem_cons_of_mem _ hx))
    obtain ⟨x, hx, h1, h2⟩ := h
    rw [List.countP_cons, List.countP_cons]
    rcases List.mem_cons.1 hx with e | e
    · subst e
      rw [h1, h2]
      simp
      omega
    · have ih := count_lt l (fun z hz => hle z (List.mem_cons_of_mem _ hz)) ⟨x, e, h1, h2⟩
      have hy := hle y List.mem_cons_self
      cases hq : q y with
      | false => cases hp : p y <;> simp <;> omega
      | true => rw [hy hq]; simp; omega
section
variable {P : Program} {md : Region.Mode} {ops : Array Oper} {Q : Exit → Act → World → Prop}
variable (a0 : Act) (G : Nat → Value → World → Prop) (B : World → Prop)
/-- What is known on the way. -/
structure FI (ops : Array Oper) (listed : Array Bool) (a : Act) (w : World) (vs : Nat → Value) : Prop where
  df : a.defers = a0.defers
  sz : a.tmps.size = a0.tmps.size
  val : ∀ i s, dstOf ops i = some s → s < a0.tmps.size → listed.getD i false = true → a.tmps[s]? = some (vs i)
  old : ∀ s, (∀ i, listed.getD i false = true → dstOf ops i ≠ some s) → a.tmps[s]? = a0.tmps[s]?
  facts : ∀ i, listed.getD i false = true → G i (vs i) w
  base : B w
theorem any_facts (hlow : ∀ j, ∀ i ∈ deps md ops j, i < j) (hg : ∀ (i : Nat) (o : Oper), ops[i]? = some o → o.guard = none) (hd : ∀ i j, i < ops.size → j < ops.size → i ≠ j → dstOf ops i ≠ dstOf ops j) (hds : ∀ i, i < ops.size → ∃ s, dstOf ops i = some s)
    (hst : ∀ i v w w', B w → B w' → Below w.heap.size w w' → G i v w → G i v w')
    (hstep : ∀ i o, ops[i]? = some o → ∀ (a : Act) (w : World) (vs : Nat → Value) (K : Act → World → Prop), B w → (∀ d ∈ deps md ops i, G d (vs d) w ∧ ∀ s, dstOf ops d = some s → s < a0.tmps.size → a.eval (.tmp s) = vs d) → (∀ s, (∀ k, dstOf ops k ≠ some s) → a.eval (.tmp s) = a0.eval (.tmp s)) → (∀ v w', Below w.heap.size w w' → B w' → G i v w' → K (a.put o.dst v) w') → o.wp P a w K Q)
    (hfin : ∀ (vs : Nat → Value) (w : World), B w → (∀ i, i < ops.size → G i (vs i) w) → Q .normal (putAll a0 ((List.range ops.size).map fun i => (dstOf ops i, vs i))) w) :
    ∀ (fuel : Nat) (listed : Array Bool) (a : Act) (w : World) (vs : Nat → Value), listed.size = ops.size → (List.range ops.size).countP (fun i => !listed.getD i false) ≤ fuel → FI a0 G B ops listed a w vs → wpAny P md ops Q fuel listed a w := by
  have all_of_nil : ∀ (listed : Array Bool), listed.size = ops.size → Region.ready md ops listed = [] → ∀ i, i < ops.size → listed.getD i false = true := by
    intro listed hs h i
    induction i using Nat.strongRecOn with
    | _ i ih =>
      intro hi
      cases hc : listed.getD i false with
      | true => rfl
      | false =>
        have hl : i < listed.size := by omega
        have ht : listed.getD i true = false := by
          simp only [Array.getD, hl, dif_pos] at hc ⊢; exact hc
        have hr : i ∈ Region.ready md ops listed := ready_iff.2 ⟨ht, by rw [Array.getElem?_eq_getElem hi]; rfl, fun k hk => ih k (hlow i k hk) (by have := hlow i k hk; omega)⟩
        rw [h] at hr; cases hr
  have fin : ∀ (listed : Array Bool) (a : Act) (w : World) (vs : Nat → Value), (∀ i, i < ops.size → listed.getD i false = true) → FI a0 G B ops listed a w vs → Q .normal a w := by
    intro listed a w vs hall h
    have e : a = putAll a0 ((List.range ops.size).map fun i => (dstOf ops i, vs i)) := by
      have hp : ((List.range ops.size).map fun i => (dstOf ops i, vs i)).Pairwise (fun x y => x.1 ≠ y.1) := by
        rw [List.pairwise_map]
        refine List.Pairwise.imp_of_mem (fun {x y} hx hy hxy => ?_) (List.pairwise_lt_range (n := ops.size))
        exact hd x y (List.mem_range.1 hx) (List.mem_range.1 hy) (by omega)
      have ht : a.tmps = (putAll a0 ((List.range ops.size).map fun i => (dstOf ops i, vs i))).tmps := by
        refine Array.ext_getElem? (fun s => ?_)
        by_cases hex : ∃ i, i < ops.size ∧ dstOf ops i = some s
        · obtain ⟨i, hi, hs⟩ := hex
          by_cases hb : s < a0.tmps.size
          · rw [h.val i s hs hb (hall i hi), putAll_new _ a0 s (vs i) hb hp (List.mem_map.2 ⟨i, List.mem_range.2 hi, by rw [hs]⟩)]
          · rw [Array.getElem?_eq_none (by rw [h.sz]; omega), Array.getElem?_eq_none (by rw [putAll_size]; omega)]
        · rw [h.old s (fun i hi e => ?_), putAll_old _ a0 s (fun x hx e => ?_)]
          · obtain ⟨i, hi, rfl⟩ := List.mem_map.1 hx
            exact hex ⟨i, List.mem_range.1 hi, e⟩
          · refine hex ⟨i, ?_, e⟩
            rcases Nat.lt_or_ge i ops.size with hlt | hge
            · exact hlt
            · unfold dstOf at e
              rw [Array.getElem?_eq_none hge] at e
              cases e
      have hdf : a.defers = (putAll a0 ((List.range ops.size).map fun i => (dstOf ops i, vs i))).defers := by rw [putAll_defers, h.df]
      cases a
      generalize putAll a0 _ = b at *
      cases b
      simp_all
    rw [e]
    exact hfin vs w h.base (fun i hi => h.facts i (hall i hi))
  intro fuel
  induction fuel with
  | zero =>
    intro listed a w vs hs hc h
    have hall : ∀ i, i < ops.size → listed.getD i false = true := by
      intro i hi
      have h0 : (List.range ops.size).countP (fun i => !listed.getD i false) = 0 := by omega
      have := List.countP_eq_zero.1 h0 i (List.mem_range.2 hi)
      simpa using this
    refine ⟨?_, fin listed a w vs hall h⟩
    refine List.eq_nil_iff_forall_not_mem.2 fun j hj => ?_
    obtain ⟨h1, h2, _⟩ := ready_iff.1 hj
    obtain ⟨o, ho⟩ := Option.isSome_iff_exists.1 h2
    have hl := (Array.getElem?_eq_some_iff.1 ho).1
    have h3 := hall j hl
    have hl2 : j < listed.size := by omega
    simp only [Array.getD, hl2, dif_pos] at h1 h3
    rw [h1] at h3; cases h3
  | succ fuel ih =>
    intro listed a w vs hs hc h
    refine ⟨fun e => fin listed a w vs (all_of_nil listed hs e) h, fun i hi => ?_⟩
    obtain ⟨h1, h2, h3⟩ := ready_iff.1 hi
    obtain ⟨o, ho⟩ := Option.isSome_iff_exists.1 h2
    have hl := (Array.getElem?_eq_some_iff.1 ho).1
    have hl2 : i < listed.size := by omega
    have hnot : listed.getD i false = false := by
      simp only [Array.getD, hl2, dif_pos] at h1 ⊢; exact h1
    obtain ⟨s0, hs0⟩ := hds i hl
    have hod : o.dst = some s0 := by unfold dstOf at hs0; rw [ho] at hs0; exact hs0
    unfold wpOp
    simp only [ho]
    rw [if_pos (by simp [Region.wanted, hg i o ho])]
    refine .inl (hstep i o ho a w vs _ h.base (fun d hdm => ⟨h.facts d (h3 d hdm), fun s hsd hb => ?_⟩) (fun s hsk => ?_) (fun v w' hbel hB' hGi => ?_))
    · show a.tmps.getD s undef = vs d
      rw [Array.getD_eq_getD_getElem?, h.val d s hsd hb (h3 d hdm)]
      rfl
    · show a.tmps.getD s undef = a0.tmps.getD s undef
      rw [Array.getD_eq_getD_getElem?, Array.getD_eq_getD_getElem?, h.old s (fun k _ => hsk k)]
    · refine ih _ _ w' (fun k => if k = i then v else vs k) (by simpa using hs) ?_ ⟨?_, ?_, ?_, ?_, ?_, hB'⟩
      · have hlt := count_lt (p := fun k => !listed.getD k false) (q := fun k => !(listed.setIfInBounds i true).getD k false) (List.range ops.size) (fun k _ hk => by
          by_cases e : i = k
          · subst e; simp [hl2] at hk
          · rw [getD_set_ne false e] at hk; exact hk) ⟨i, List.mem_range.2 hl, by simp [hnot], by simp [hl2]⟩
        omega
      · rw [put_defers, h.df]
      · rw [put_size, h.sz]
      · intro k s hk hb hlk
        rw [hod, put_get]
        by_cases e : k = i
        · subst e
          rw [hs0] at hk
          cases hk
          rw [if_pos ⟨rfl, by rw [h.sz]; exact hb⟩, if_pos rfl]
        · rw [getD_set_ne false (fun e2 => e e2.symm)] at hlk
          have hkl : k < ops.size := by
            rcases Nat.lt_or_ge k ops.size with hlt | hge
            · exact hlt
            · unfold dstOf at hk
              rw [Array.getElem?_eq_none hge] at hk
              cases hk
          have hne : s0 ≠ s := fun e2 => hd k i hkl hl e (by rw [hk, hs0, e2])
          rw [if_neg (fun e2 => hne e2.1), if_neg e]
          exact h.val k s hk hb hlk
      · intro s hsk
        have hne : s0 ≠ s := fun e2 => hsk i (by simp [hl2]) (by rw [hs0, e2])
        rw [hod, put_get, if_neg (fun e2 => hne e2.1)]
        refine h.old s (fun k hk => hsk k ?_)
        exact getD_set_true hk
      · intro k hk
        by_cases e : k = i
        · subst e; rw [if_pos rfl]; exact hGi
        · rw [getD_set_ne false (fun e2 => e e2.symm)] at hk
          rw [if_neg e]
          exact hst k (vs k) w w' h.base hB' hbel (h.facts k hk)
theorem FI.step {n : Nat} {listed : Array Bool} {a : Act} {w w' : World} {vs : Nat → Value} {i : Nat} {o : Oper} {v : Value} {s0 : Tmp} (h : FI a0 G B ops listed a w vs) (hs : listed.size = ops.size) (hin : i < n) (ho : ops[i]? = some o) (hnot : listed.getD i false = false) (htl : ∀ q, n ≤ q → listed.getD q false = false)
    (hd : ∀ i j, i < n → j < n → i ≠ j → dstOf ops i ≠ dstOf ops j) (hs0 : dstOf ops i = some s0) (hst : ∀ k, G k (vs k) w → G k (vs k) w') (hB' : B w') (hGi : G i v w') :
    FI a0 G B ops (listed.setIfInBounds i true) (a.put o.dst v) w' (fun k => if k = i then v else vs k) := by
  have hl := (Array.getElem?_eq_some_iff.1 ho).1
  have hl2 : i < listed.size := by omega
  have hod : o.dst = some s0 := by unfold dstOf at hs0; rw [ho] at hs0; exact hs0
  refine ⟨?_, ?_, ?_, ?_, ?_, hB'⟩
  · rw [put_defers, h.df]
  · rw [put_size, h.sz]
  · intro k s hk hb hlk
    rw [hod, put_get]
    by_cases e : k = i
    · subst e
      rw [hs0] at hk
      cases hk
      rw [if_pos ⟨rfl, by rw [h.sz]; exact hb⟩, if_pos rfl]
    · rw [getD_set_ne false (fun e2 => e e2.symm)] at hlk
      have hkl : k < n := by
        rcases Nat.lt_or_ge k n with hlt | hge
        · exact hlt
        · rw [htl k hge] at hlk; cases hlk
      have hne : s0 ≠ s := fun e2 => hd k i hkl hin e (by rw [hk, hs0, e2])
      rw [if_neg (fun e2 => hne e2.1), if_neg e]
      exact h.val k s hk hb hlk
  · intro s hsk
    have hne : s0 ≠ s := fun e2 => hsk i (by simp [hl2]) (by rw [hs0, e2])
    rw [hod, put_get, if_neg (fun e2 => hne e2.1)]
    exact h.old s (fun k hk => hsk k (getD_set_true hk))
  · intro k hk
    by_cases e : k = i
    · subst e; rw [if_pos rfl]; exact hGi
    · rw [getD_set_ne false (fun e2 => e e2.symm)] at hk
      rw [if_neg e]
      exact hst k (h.facts k hk)
theorem count_step {listed : Array Bool} {i : Nat} (hs : listed.size = ops.size) (hl : i < ops.size) (hnot : listed.getD i false = false) : (List.range ops.size).countP (fun k => !(listed.setIfInBounds i true).getD k false) < (List.range ops.size).countP (fun k => !listed.getD k false) := by
  have hl2 : i < listed.size := by omega
  exact count_lt (p := fun k => !listed.getD k false) (q := fun k => !(listed.setIfInBounds i true).getD k false) (List.range ops.size) (fun k _ hk => by
    by_cases e : i = k
    · subst e; simp [hl2] at hk
    · rw [getD_set_ne false e] at hk; exact hk) ⟨i, List.mem_range.2 hl, by simp [hnot], by simp [hl2]⟩
/-- One operation of the head, ex, is waited for by no store of the tail. -/
structure Float (md : Region.Mode) (ops : Array Oper) (n ex : Nat) : Prop where
  low : ∀ j, ∀ i ∈ deps md ops j, i < j
  seal_ : ∀ i, i < n → i ≠ ex → (∃ k, k < n ∧ i < k ∧ k ≠ ex ∧ i ∈ deps md ops k) ∨ i ∈ deps md ops n
  chain : ∀ j, n < j → j < ops.size → j - 1 ∈ deps md ops j
  guards : ∀ i o, i < n → ops[i]? = some o → guardOn o < n
  lt : n < ops.size
  exl : ex < n
theorem Float.listed {ops : Array Oper} {listed : Array Bool} {n ex : Nat} (s : Float md ops n ex) (hd : Down md ops listed) (hn : ∀ i ∈ deps md ops n, listed.getD i false = true) : ∀ d i, i < n → i ≠ ex → n - i ≤ d → listed.getD i false = true
  | 0, i, hi, _, h => by omega
  | d + 1, i, hi, he, h => by
    rcases s.seal_ i hi he with ⟨k, hk, hik, hke, hm⟩ | hm
    · exact hd k (s.listed hd hn d k hk hke (by omega)) i hm
    · exact hn i hm
theorem float_facts {n ex : Nat} {tl : List Oper} (s : Float md ops n ex) (ht : ∀ j, tl[j]? = ops[n + j]?) (htlen : tl.length + n = ops.size) (hg : ∀ (i : Nat) (o : Oper), i < n → ops[i]? = some o → o.guard = none) (hd : ∀ i j, i < n → j < n → i ≠ j → dstOf ops i ≠ dstOf ops j) (hds : ∀ i, i < n → ∃ s, dstOf ops i = some s)
    (hns : Region.noSelect ops = true) (hfree : ∀ listed : Array Bool, listed.size = ops.size → (∀ i, i < n → i ≠ ex → listed.getD i false = true) → listed.getD ex false = false → (∀ i, n ≤ i → listed.getD i false = false) → Region.free md ops listed ex = true)
    (hst : ∀ i v w w', B w → B w' → Below w.heap.size w w' → G i v w → G i v w')
    (hex : ∀ oi, ops[ex]? = some oi → ∀ (a : Act) (w : World) (vs : Nat → Value), B w → (∀ d ∈ deps md ops ex, G d (vs d) w ∧ ∀ s, dstOf ops d = some s → s < a0.tmps.size → a.eval (.tmp s) = vs d) → ∃ v, Yields P ops oi v a ∧ G ex v w)
    (hQ : ∀ (c : List PanicEntry) (d : Option Tmp) (v : Value) (a : Act) (w : World), Q (.panic c) (a.put d v) w → Q (.panic c) a w)
    (hstep : ∀ i, i < n → ∀ o, ops[i]? = some o → ∀ (a : Act) (w : World) (vs : Nat → Value) (K : Act → World → Prop), B w → (∀ d ∈ deps md ops i, G d (vs d) w ∧ ∀ s, dstOf ops d = some s → s < a0.tmps.size → a.eval (.tmp s) = vs d) → (∀ s, (∀ k, k < n → dstOf ops k ≠ some s) → a.eval (.tmp s) = a0.eval (.tmp s)) → (∀ v w', Below w.heap.size w w' → B w' → G i v w' → K (a.put o.dst v) w') → o.wp P a w K Q)
    (hfin : ∀ (vs : Nat → Value) (a : Act) (w : World), B w → (∀ i, i < n → G i (vs i) w) → a.defers = a0.defers → a.tmps.size = a0.tmps.size → (∀ i s, i < n → dstOf ops i = some s → s < a0.tmps.size → a.tmps[s]? = some (vs i)) → (∀ s, (∀ i, i < n → dstOf ops i ≠ some s) → a.tmps[s]? = a0.tmps[s]?) → wpList P ops Q tl a w) :
    ∀ (fuel : Nat) (listed : Array Bool) (a : Act) (w : World) (vs : Nat → Value), listed.size = ops.size → (∀ i, n ≤ i → listed.getD i false = false) → Down md ops listed → (List.range ops.size).countP (fun i => !listed.getD i false) ≤ fuel → FI a0 G B ops listed a w vs → wpAny P md ops Q fuel listed a w := by
  have hcnt : ∀ listed : Array Bool, (∀ i, n ≤ i → listed.getD i false = false) → tl.length ≤ (List.range ops.size).countP (fun i => !listed.getD i false) := by
    intro listed h
    have e : List.range ops.size = List.range n ++ (List.range tl.length).map (n + ·) := by rw [← htlen, Nat.add_comm, List.range_add]
    rw [e, List.countP_append]
    have h2 : ((List.range tl.length).map (n + ·)).countP (fun i => !listed.getD i false) = tl.length := by
      rw [List.countP_eq_length.2 (fun x hx => by
        obtain ⟨y, _, rfl⟩ := List.mem_map.1 hx
        rw [h _ (Nat.le_add_right _ _)]; rfl)]
      simp
    omega
  intro fuel
  induction fuel with
  | zero =>
    intro listed a w vs hs htl hdn hc h
    have h1 := hcnt listed htl
    have := s.lt
    omega
  | succ fuel ih =>
    intro listed a w vs hs htl hdn hc h
    by_cases hall : ∀ i, i < n → i ≠ ex → listed.getD i false = true
    · by_cases hx : listed.getD ex false = true
      · have hall2 : ∀ i, i < n → listed.getD i false = true := fun i hi => by
          by_cases e : i = ex
          · rw [e]; exact hx
          · exact hall i hi e
        have sp : SplitAt md ops n ex := ⟨s.low, fun i hi he => (s.seal_ i hi he).imp (fun ⟨k, a1, a2, a3, a4⟩ => ⟨k, a1, a2, a4⟩) id, s.chain, s.guards, by have := s.exl; omega, s.lt⟩
        refine tail_any sp tl n listed a w _ (Nat.le_refl _) ht hs (fun i hi _ => hall2 i hi) (fun i hi hil => ?_) (Nat.le_trans (hcnt listed htl) hc) ?_
        · have h1 := htl i hi
          have hl : i < listed.size := by omega
          simp only [Array.getD, hl, dif_pos] at h1 ⊢
          exact h1
        · exact hfin vs a w h.base (fun i hi => h.facts i (hall2 i hi)) h.df h.sz (fun i t hi ht2 hb => h.val i t ht2 hb (hall2 i hi)) (fun t htk => h.old t (fun i hi => htk i (by
            rcases Nat.lt_or_ge i n with q | q
            · exact q
            · rw [htl i q] at hi; cases hi)))
      · have hx2 : listed.getD ex false = false := by simpa using hx
        have hexs : ex < ops.size := by have := s.lt; have := s.exl; omega
        obtain ⟨v, hy, hGv⟩ := hex ops[ex] (Array.getElem?_eq_getElem hexs) a w vs h.base (fun d hdm => by
          have hdl := hall d (by have := s.low ex d hdm; have := s.exl; omega) (by have := s.low ex d hdm; omega)
          refine ⟨h.facts d hdl, fun t htd hb => ?_⟩
          show a.tmps.getD t undef = vs d
          rw [Array.getD_eq_getD_getElem?, h.val d t htd hb hdl]
          rfl)
        have hl2 : ex < listed.size := by omega
        have hr : ex ∈ Region.ready md ops listed := ready_iff.2 ⟨by simp only [Array.getD, hl2, dif_pos] at hx2 ⊢; exact hx2, by rw [Array.getElem?_eq_getElem hexs]; rfl, fun d hdm => hall d (by have := s.low ex d hdm; have := s.exl; omega) (by have := s.low ex d hdm; omega)⟩
        obtain ⟨s0, hs0⟩ := hds ex s.exl
        have ho : ops[ex]? = some ops[ex] := Array.getElem?_eq_getElem hexs
        have hc2 := count_step hs hexs hx2
        refine wpAny_take (i := ex) (oi := ops[ex]) (v := v) ho hns (hfree listed hs hall hx2 htl) (by simpa using hr) (fun c a2 w2 hp => hQ c _ v a2 w2 hp) hy ?_
        exact ih _ _ w _ (by simpa using hs) (fun q hq => by rw [getD_set_ne false (by have := s.exl; omega)]; exact htl q hq) (down_step hdn hr) (by omega) (h.step a0 G B hs s.exl ho hx2 htl hd hs0 (fun k hk => hk) h.base hGv)
    · have hsub : ∀ i, i ∈ Region.ready md ops listed → i < n := fun i hi => by
        obtain ⟨q1, q2, q3⟩ := ready_iff.1 hi
        rcases Nat.lt_trichotomy i n with hlt | he | hgt
        · exact hlt
        · subst he
          exact absurd (fun k hk hke => s.listed hdn q3 _ k hk hke (Nat.le_refl _)) hall
        · obtain ⟨oi, hoi⟩ := Option.isSome_iff_exists.1 q2
          have hil := (Array.getElem?_eq_some_iff.1 hoi).1
          have h6 := q3 (i - 1) (s.chain i hgt hil)
          rw [htl (i - 1) (by omega)] at h6; cases h6
      have hne : Region.ready md ops listed ≠ [] := fun e => by
        refine hall (fun i hi _ => ?_)
        have key : ∀ i, i < n → listed.getD i false = true := by
          intro i
          induction i using Nat.strongRecOn with
          | _ i ih2 =>
            intro hi
            cases hcc : listed.getD i false with
            | true => rfl
            | false =>
              have hil : i < ops.size := by have := s.lt; omega
              have hl2 : i < listed.size := by omega
              have hr : i ∈ Region.ready md ops listed := ready_iff.2 ⟨by simp only [Array.getD, hl2, dif_pos] at hcc ⊢; exact hcc, by rw [Array.getElem?_eq_getElem hil]; rfl, fun k hk => ih2 k (s.low i k hk) (by have := s.low i k hk; omega)⟩
              rw [e] at hr; cases hr
        exact key i hi
      refine ⟨fun e => absurd e hne, fun i hi => ?_⟩
      have hin := hsub i hi
      obtain ⟨h1, h2, h3⟩ := ready_iff.1 hi
      obtain ⟨o, ho⟩ := Option.isSome_iff_exists.1 h2
      have hl := (Array.getElem?_eq_some_iff.1 ho).1
      have hl2 : i < listed.size := by omega
      have hnot : listed.getD i false = false := by
        simp only [Array.getD, hl2, dif_pos] at h1 ⊢; exact h1
      obtain ⟨s0, hs0⟩ := hds i hin
      have hc2 := count_step hs hl hnot
      unfold wpOp
      simp only [ho]
      rw [if_pos (by simp [Region.wanted, hg i o hin ho])]
      refine .inl (hstep i hin o ho a w vs _ h.base (fun d hdm => ⟨h.facts d (h3 d hdm), fun s hsd hb => ?_⟩) (fun t htk => ?_) (fun v w' hbel hB' hGi => ?_))
      · show a.tmps.getD s undef = vs d
        rw [Array.getD_eq_getD_getElem?, h.val d s hsd hb (h3 d hdm)]
        rfl
      · show a.tmps.getD t undef = a0.tmps.getD t undef
        rw [Array.getD_eq_getD_getElem?, Array.getD_eq_getD_getElem?, h.old t (fun k hk => htk k (by
          rcases Nat.lt_or_ge k n with q | q
          · exact q
          · rw [htl k q] at hk; cases hk))]
      · exact ih _ _ w' _ (by simpa using hs) (fun q hq => by rw [getD_set_ne false (by omega)]; exact htl q hq) (down_step hdn hi) (by omega) (h.step a0 G B hs hin ho hnot htl hd hs0 (fun k hk => hst k (vs k) w w' h.base hB' hbel hk) hB' hGi)
theorem free_of {ops : Array Oper} {n ex : Nat} (hexl : ex < n) (hn : n ≤ ops.size) (h : Region.free md ops ((Array.replicate n true ++ Array.replicate (ops.size - n) false).setIfInBounds ex false) ex = true) :
    ∀ listed : Array Bool, listed.size = ops.size → (∀ i, i < n → i ≠ ex → listed.getD i false = true) → listed.getD ex false = false → (∀ i, n ≤ i → listed.getD i false = false) → Region.free md ops listed ex = true := by
  intro listed hs h1 h2 h3
  have e : listed = (Array.replicate n true ++ Array.replicate (ops.size - n) false).setIfInBounds ex false := by
    refine Array.ext (by simp; omega) (fun i hi hi2 => ?_)
    have hg : ∀ b, listed.getD i false = b → listed[i] = b := fun b hb => by simpa [Array.getD, hi] using hb
    by_cases e1 : i = ex
    · subst e1
      rw [hg false h2]
      simp
    · by_cases e2 : i < n
      · rw [hg true (h1 i e2 e1), Array.getElem_setIfInBounds (by simp; omega), if_neg (Ne.symm e1), Array.getElem_append]
        simp [e2]
      · rw [hg false (h3 i (by omega)), Array.getElem_setIfInBounds (by simp; omega), if_neg (Ne.symm e1), Array.getElem_append]
        simp [e2]
  rw [e]
  exact h
/-- What is looked at once, by the kernel. -/
def floatB (ops : Array Oper) (n ex : Nat) : Bool :=
  (List.range ops.size).all (fun j => (deps .any ops j).all (· < j)) &&
  (List.range n).all (fun i => i == ex || (List.range n).any (fun k => decide (i < k) && k != ex && (deps .any ops k).contains i) || (deps .any ops n).contains i) &&
  (List.range ops.size).all (fun j => decide (j ≤ n) || (deps .any ops j).contains (j - 1)) &&
  (List.range n).all (fun i => match ops[i]? with | some o => o.guard.isNone && o.dst.isSome && decide (guardOn o < n) | none => false) &&
  (List.range n).all (fun i => (List.range n).all (fun j => i == j || dstOf ops i != dstOf ops j)) &&
  decide (n < ops.size) && decide (ex < n) && Region.noSelect ops && Region.free .any ops ((Array.replicate n true ++ Array.replicate (ops.size - n) false).setIfInBounds ex false) ex
/-- THE LAW: a region that draws its order: its head by facts, with one pure operation that no store of the tail waits for; its tail one behind the other. -/
theorem wp_region_float {id n ex : Nat} {l : List Oper} {w : World} (hm : P.follows .mixedOrders = true) (hF : floatB l.toArray n ex = true) (hB0 : B { w with drawn := w.drawn + 1 })
    (hQ : ∀ (c : List PanicEntry) (d : Option Tmp) (v : Value) (a : Act) (w : World), Q (.panic c) (a.put d v) w → Q (.panic c) a w)
    (hst : ∀ i v w w', B w → B w' → Below w.heap.size w w' → G i v w → G i v w')
    (hex : ∀ oi, l[ex]? = some oi → ∀ (a : Act) (w : World) (vs : Nat → Value), B w → (∀ d ∈ deps .any l.toArray ex, G d (vs d) w ∧ ∀ s, dstOf l.toArray d = some s → s < a0.tmps.size → a.eval (.tmp s) = vs d) → ∃ v, Yields P l.toArray oi v a ∧ G ex v w)
    (hstep : ∀ i, i < n → ∀ o, l[i]? = some o → ∀ (a : Act) (w : World) (vs : Nat → Value) (K : Act → World → Prop), B w → (∀ d ∈ deps .any l.toArray i, G d (vs d) w ∧ ∀ s, dstOf l.toArray d = some s → s < a0.tmps.size → a.eval (.tmp s) = vs d) → (∀ s, (∀ k, k < n → dstOf l.toArray k ≠ some s) → a.eval (.tmp s) = a0.eval (.tmp s)) → (∀ v w', Below w.heap.size w w' → B w' → G i v w' → K (a.put o.dst v) w') → o.wp P a w K Q)
    (hfin : ∀ (vs : Nat → Value) (w : World), B w → (∀ i, i < n → G i (vs i) w) → wpList P l.toArray Q (l.drop n) (putAll a0 ((List.range n).map fun i => (dstOf l.toArray i, vs i))) w) : (Code.region id l.toArray true).wp P Q a0 w := by
  simp only [floatB, Bool.and_eq_true, List.all_eq_true, List.any_eq_true, List.mem_range, Bool.or_eq_true, decide_eq_true_eq, List.contains_iff_mem, beq_iff_eq, bne_iff_ne] at hF
  obtain ⟨⟨⟨⟨⟨⟨⟨⟨f1, f2⟩, f3⟩, f4⟩, f5⟩, f6⟩, f7⟩, f8⟩, f9⟩ := hF
  have hop : ∀ i, i < n → ∃ o, l.toArray[i]? = some o ∧ o.guard = none ∧ (∃ t, o.dst = some t) ∧ guardOn o < n := fun i hi => by
    have h := f4 i hi
    cases ho : l.toArray[i]? with
    | none => rw [ho] at h; cases h
    | some o =>
      rw [ho] at h
      simp only [Bool.and_eq_true, decide_eq_true_eq] at h
      refine ⟨o, rfl, by simpa using h.1.1, Option.isSome_iff_exists.1 h.1.2, h.2⟩
  have s : Float .any l.toArray n ex := by
    refine ⟨fun j i hi => ?_, fun i hi he => ?_, fun j hj hs => ?_, fun i o hi ho => ?_, f6, f7⟩
    · rcases Nat.lt_or_ge j l.toArray.size with hj | hj
      · exact f1 j hj i hi
      · rw [deps_none hj] at hi; cases hi
    · rcases f2 i hi with (h0 | ⟨k, hk, ⟨h7, h8⟩, h9⟩) | h7
      · exact absurd h0 he
      · exact .inl ⟨k, hk, h7, h8, h9⟩
      · exact .inr h7
    · rcases f3 j hs with h7 | h7
      · omega
      · exact h7
    · obtain ⟨o2, h1, _, _, h4⟩ := hop i hi
      rw [ho] at h1
      cases h1
      exact h4
  have hln : n < l.length := by simpa using f6
  have hrep : ∀ i, (Array.replicate l.toArray.size false).getD i false = false := fun i => by
    rw [Array.getD_eq_getD_getElem?, Array.getElem?_replicate]
    split <;> rfl
  refine wp_region_any hm ?_
  refine float_facts a0 G B (tl := l.drop n) s (fun j => by simp) (by simp; omega) (fun i o hi ho => ?_) (fun i j hi hj hne => ?_) (fun i hi => ?_) f8 (free_of f7 (Nat.le_of_lt f6) f9) hst (fun oi ho => hex oi (by simpa using ho)) hQ (fun i hi o ho => hstep i hi o (by simpa using ho)) (fun vs a w' hb hG hdf hsz hval hold => ?_) l.toArray.size (Array.replicate l.toArray.size false) a0 _ (fun _ => undef) (by simp) (fun i hi => ?_) (fun j hj i hi => ?_) ?_ ⟨rfl, rfl, ?_, fun _ _ => rfl, ?_, hB0⟩
  · obtain ⟨o2, h1, h2, _, _⟩ := hop i hi
    rw [ho] at h1
    cases h1
    exact h2
  · rcases f5 i hi j hj with h | h
    · exact absurd h hne
    · exact h
  · obtain ⟨o2, h1, _, ⟨t, h3⟩, _⟩ := hop i hi
    exact ⟨t, by unfold dstOf; rw [h1]; exact h3⟩
  · have hp : ((List.range n).map fun i => (dstOf l.toArray i, vs i)).Pairwise (fun x y => x.1 ≠ y.1) := by
      rw [List.pairwise_map]
      refine List.Pairwise.imp_of_mem (fun {x y} hx hy hxy => ?_) (List.pairwise_lt_range (n := n))
      rcases f5 x (List.mem_range.1 hx) y (List.mem_range.1 hy) with h | h
      · omega
      · exact h
    have e : a = putAll a0 ((List.range n).map fun i => (dstOf l.toArray i, vs i)) := by
      have ht : a.tmps = (putAll a0 ((List.range n).map fun i => (dstOf l.toArray i, vs i))).tmps := by
        refine Array.ext_getElem? (fun t => ?_)
        by_cases hx : ∃ i, i < n ∧ dstOf l.toArray i = some t
        · obtain ⟨i, hi, ht⟩ := hx
          by_cases hb2 : t < a0.tmps.size
          · rw [hval i t hi ht hb2, putAll_new _ a0 t (vs i) hb2 hp (List.mem_map.2 ⟨i, List.mem_range.2 hi, by rw [ht]⟩)]
          · rw [Array.getElem?_eq_none (by rw [hsz]; omega), Array.getElem?_eq_none (by rw [putAll_size]; omega)]
        · rw [hold t (fun i hi e => hx ⟨i, hi, e⟩), putAll_old _ a0 t (fun x hxm e => ?_)]
          obtain ⟨i, hi, rfl⟩ := List.mem_map.1 hxm
          exact hx ⟨i, List.mem_range.1 hi, e⟩
      have hd2 : a.defers = (putAll a0 ((List.range n).map fun i => (dstOf l.toArray i, vs i))).defers := by rw [putAll_defers, hdf]
      cases a
      generalize putAll a0 _ = b at *
      cases b
      simp_all
    rw [e]
    exact hfin vs w' hb hG
  · exact hrep i
  · rw [hrep] at hj; cases hj
  · have h6 := List.countP_le_length (p := fun i => !(Array.replicate l.toArray.size false).getD i false) (l := List.range l.toArray.size)
    rw [List.length_range] at h6
    exact h6
  · intro i t ht hb hi
    rw [hrep] at hi; cases hi
  · intro i hi
    rw [hrep] at hi; cases hi
end
end Go.Proofs.Ytiahfgcfgpakiaa.Facts


