/- A region whose order stands, by facts: each operation brings about a fact of its own place that no later one takes away: plain theorems about the model. -/
import Derived.Test.YtiahfgcfgpakiaaFloat
namespace Go.Proofs.Ytiahfgcfgpakiaa.Facts
open Go Go.RowKit Go.Proofs.Ytiahfgcfgpakiaa.Split
set_option linter.unusedVariables false
set_option linter.unusedSimpArgs false
theorem putAll_append (a : Act) (L M : List (Option Tmp × Value)) : putAll a (L ++ M) = putAll (putAll a L) M := by
  induction L generalizing a with
  | nil => rfl
  | cons x L ih => obtain ⟨d, v⟩ := x; rw [List.cons_append, putAll, putAll, ih]
def noDup : List (Option Tmp) → Bool
  | [] => true
  | x :: r => r.all (· != x) && noDup r
theorem noDup_pw : ∀ l : List (Option Tmp), noDup l = true → l.Pairwise (· ≠ ·)
  | [], _ => List.Pairwise.nil
  | x :: r, h => by
    simp only [noDup, Bool.and_eq_true, List.all_eq_true, bne_iff_ne] at h
    exact List.Pairwise.cons (fun y hy => (h.1 y hy).symm) (noDup_pw r h.2)
/-- What is looked at once, by the kernel. -/
def seqB (l : List Oper) : Bool := l.all (fun o => o.guard.isNone && o.dst.isSome) && noDup (l.map (·.dst))
def upTo (l : List Oper) (vs : Nat → Value) (n : Nat) : List (Option Tmp × Value) := (List.range n).map fun i => (dstOf l.toArray i, vs i)
section
variable {P : Program} {Q : Exit → Act → World → Prop}
variable (a0 : Act) (G : Nat → Value → World → Prop) (B : World → Prop)
theorem dst_get {l : List Oper} {i : Nat} {o : Oper} (h : l[i]? = some o) : dstOf l.toArray i = o.dst := by
  unfold dstOf
  simp [h]
theorem dst_ne {l : List Oper} (h : noDup (l.map (·.dst)) = true) {i j : Nat} (hi : i < l.length) (hj : j < l.length) (hne : i ≠ j) : dstOf l.toArray i ≠ dstOf l.toArray j := by
  have hp := List.pairwise_iff_getElem.1 (noDup_pw _ h)
  rw [dst_get (List.getElem?_eq_getElem hi), dst_get (List.getElem?_eq_getElem hj)]
  rcases Nat.lt_or_gt_of_ne hne with h1 | h1
  · have := hp i j (by simpa using hi) (by simpa using hj) h1
    simpa using this
  · have := hp j i (by simpa using hj) (by simpa using hi) h1
    simpa using this.symm
theorem seq_facts {l : List Oper} (hs : seqB l = true)
    (hst : ∀ i v w w', B w → B w' → Below w.heap.size w w' → G i v w → G i v w')
    (hstep : ∀ i, i < l.length → ∀ o, l[i]? = some o → ∀ (a : Act) (W : World) (vs : Nat → Value) (K : Act → World → Prop), B W → (∀ d, d < i → G d (vs d) W ∧ ∀ s, dstOf l.toArray d = some s → s < a0.tmps.size → a.tmps[s]?.getD undef = vs d) → (∀ s, (∀ k, k < l.length → dstOf l.toArray k ≠ some s) → a.tmps[s]?.getD undef = a0.tmps[s]?.getD undef) → (∀ v w', Below W.heap.size W w' → B w' → G i v w' → K (a.put o.dst v) w') → o.wp P a W K Q)
    (hfin : ∀ (vs : Nat → Value) (W : World), B W → (∀ i, i < l.length → G i (vs i) W) → Q .normal (putAll a0 (upTo l vs l.length)) W) :
    ∀ (rest : List Oper) (n : Nat) (W : World) (vs : Nat → Value), l.drop n = rest → n ≤ l.length → B W → (∀ i, i < n → G i (vs i) W) → wpList P l.toArray Q rest (putAll a0 (upTo l vs n)) W := by
  simp only [seqB, Bool.and_eq_true, List.all_eq_true] at hs
  intro rest
  induction rest with
  | nil =>
    intro n W vs hd hn hB hG
    have e : n = l.length := by
      have := congrArg List.length hd
      simp at this
      omega
    subst e
    exact hfin vs W hB hG
  | cons o rest ih =>
    intro n W vs hd hn hB hG
    have hlt : n < l.length := by
      have := congrArg List.length hd
      simp at this
      omega
    have ho : l[n]? = some o := by
      have h : (l.drop n)[0]? = some o := by rw [hd]; rfl
      simpa using h
    have hrest : l.drop (n + 1) = rest := by
      rw [← List.drop_drop, hd]
      rfl
    have hmem : o ∈ l := List.mem_of_getElem? ho
    have hgo := hs.1 o hmem
    have hpw : ∀ m, m ≤ l.length → (upTo l vs m).Pairwise (fun x y => x.1 ≠ y.1) := fun m hm => by
      unfold upTo
      rw [List.pairwise_map]
      refine List.Pairwise.imp_of_mem (fun {x y} hx hy hxy => ?_) (List.pairwise_lt_range (n := m))
      exact dst_ne hs.2 (by have := List.mem_range.1 hx; omega) (by have := List.mem_range.1 hy; omega) (by omega)
    unfold wpList
    rw [if_pos (by simp [Region.wanted, Option.isNone_iff_eq_none.1 hgo.1])]
    refine .inl (hstep n hlt o ho _ W vs _ hB (fun d hdn => ⟨hG d hdn, fun s hsd hb => ?_⟩) (fun s hsk => ?_) (fun v w' hbel hB' hGi => ?_))
    · rw [putAll_new _ a0 s (vs d) hb (hpw n hn) (List.mem_map.2 ⟨d, List.mem_range.2 hdn, by rw [hsd]⟩)]
      rfl
    · rw [putAll_old _ a0 s (fun x hx e => by
        obtain ⟨i, hi, rfl⟩ := List.mem_map.1 hx
        exact hsk i (by have := List.mem_range.1 hi; omega) e)]
    · have e : (putAll a0 (upTo l vs n)).put o.dst v = putAll a0 (upTo l (fun k => if k = n then v else vs k) (n + 1)) := by
        unfold upTo
        rw [List.range_succ, List.map_append, putAll_append]
        have e2 : ((List.range n).map fun i => (dstOf l.toArray i, if i = n then v else vs i)) = (List.range n).map fun i => (dstOf l.toArray i, vs i) :=
          List.map_congr_left fun i hi => by rw [if_neg (by have := List.mem_range.1 hi; omega)]
        rw [e2]
        simp only [List.map_cons, List.map_nil, putAll, if_pos, dst_get ho]
      rw [e]
      refine ih (n + 1) w' _ hrest hlt hB' (fun i hi => ?_)
      by_cases hin : i = n
      · subst hin; rw [if_pos rfl]; exact hGi
      · rw [if_neg hin]
        exact hst i _ W w' hB hB' hbel (hG i (by omega))
/-- THE LAW. -/
theorem wp_region_seq {id : Nat} {l : List Oper} {w : World} (hs : seqB l = true) (hB0 : B w)
    (hst : ∀ i v w w', B w → B w' → Below w.heap.size w w' → G i v w → G i v w')
    (hstep : ∀ i, i < l.length → ∀ o, l[i]? = some o → ∀ (a : Act) (W : World) (vs : Nat → Value) (K : Act → World → Prop), B W → (∀ d, d < i → G d (vs d) W ∧ ∀ s, dstOf l.toArray d = some s → s < a0.tmps.size → a.tmps[s]?.getD undef = vs d) → (∀ s, (∀ k, k < l.length → dstOf l.toArray k ≠ some s) → a.tmps[s]?.getD undef = a0.tmps[s]?.getD undef) → (∀ v w', Below W.heap.size W w' → B w' → G i v w' → K (a.put o.dst v) w') → o.wp P a W K Q)
    (hfin : ∀ (vs : Nat → Value) (W : World), B W → (∀ i, i < l.length → G i (vs i) W) → Q .normal (putAll a0 (upTo l vs l.length)) W) : (Code.region id l.toArray false).wp P Q a0 w :=
  wp_region_lit (by
    have h := seq_facts a0 G B hs hst hstep hfin l 0 w (fun _ => undef) rfl (Nat.zero_le _) hB0 (fun i hi => absurd hi (Nat.not_lt_zero _))
    exact h)
theorem dst_of {l : List Oper} {ds : List Nat} (hds : l.map (·.dst) = ds.map some) {d s : Nat} (h : ds[d]? = some s) : dstOf l.toArray d = some s := by
  have h2 : (l.map (·.dst))[d]? = some (some s) := by rw [hds]; simp [h]
  rw [List.getElem?_map] at h2
  obtain ⟨o, ho, e⟩ := Option.map_eq_some_iff.1 h2
  rw [dst_get ho, e]
def putsOf (vs : Nat → Value) : Nat → List Nat → List (Option Tmp × Value)
  | _, [] => []
  | n, d :: r => (some d, vs n) :: putsOf vs (n + 1) r
theorem putsOf_eq (vs : Nat → Value) : ∀ (ds : List Nat) (n : Nat), putsOf vs n ds = (List.range ds.length).map fun i => ((ds[i]?).map id, vs (n + i))
  | [], _ => rfl
  | d :: r, n => by
    rw [putsOf, putsOf_eq vs r (n + 1), List.length_cons, List.range_succ_eq_map, List.map_cons, List.map_map]
    congr 1
    refine List.map_congr_left fun i _ => ?_
    simp [Nat.add_assoc, Nat.add_comm 1 i]
theorem upTo_puts {l : List Oper} {ds : List Nat} (vs : Nat → Value) (hds : l.map (·.dst) = ds.map some) : upTo l vs l.length = putsOf vs 0 ds := by
  have hlen : l.length = ds.length := by simpa using congrArg List.length hds
  rw [putsOf_eq, upTo, hlen]
  refine List.map_congr_left fun i hi => ?_
  have hi2 : i < ds.length := List.mem_range.1 hi
  rw [dst_of hds (List.getElem?_eq_getElem hi2), List.getElem?_eq_getElem hi2, Nat.zero_add]
  rfl
/-- The law with the frame behind a few facts. -/
theorem wp_region_seqk {id : Nat} {l : List Oper} {w : World} (N : Nat) (ds : List Nat) (keep : List (Nat × Value)) (hs : seqB l = true) (hds : l.map (·.dst) = ds.map some) (hN : ds.all (fun s => decide (s < N)) = true) (hsz : a0.tmps.size = N) (hk : ∀ p ∈ keep, a0.tmps[p.1]?.getD undef = p.2 ∧ ds.contains p.1 = false) (hB0 : B w)
    (hst : ∀ i v w w', B w → B w' → Below w.heap.size w w' → G i v w → G i v w')
    (hstep : ∀ i, i < l.length → ∀ o, l[i]? = some o → ∀ (a : Act) (W : World) (vs : Nat → Value) (K : Act → World → Prop), B W → (∀ d s, d < i → ds[d]? = some s → G d (vs d) W ∧ a.tmps[s]?.getD undef = vs d) → (∀ p ∈ keep, a.tmps[p.1]?.getD undef = p.2) → (∀ v w', Below W.heap.size W w' → B w' → G i v w' → K (a.put o.dst v) w') → o.wp P a W K Q)
    (hfin : ∀ (vs : Nat → Value) (W : World), B W → (∀ i, i < l.length → G i (vs i) W) → Q .normal (putAll a0 (putsOf vs 0 ds)) W) : (Code.region id l.toArray false).wp P Q a0 w :=
  wp_region_seq a0 G B hs hB0 hst (fun i hi o ho a W vs K hB hall hold hK => hstep i hi o ho a W vs K hB (fun d s hd hs2 => ⟨(hall d hd).1, (hall d hd).2 s (dst_of hds hs2) (by
      rw [hsz]
      have := List.all_eq_true.1 hN s (List.mem_of_getElem? hs2)
      simpa using this)⟩) (fun p hp => by
    rw [hold p.1 (fun k hk2 e => by
      have h2 := (hk p hp).2
      have h3 : (l.map (·.dst))[k]? = some (some p.1) := by
        rw [List.getElem?_map, List.getElem?_eq_getElem hk2]
        rw [dst_get (List.getElem?_eq_getElem hk2)] at e
        simp [e]
      rw [hds, List.getElem?_map] at h3
      obtain ⟨q, hq, e2⟩ := Option.map_eq_some_iff.1 h3
      cases e2
      have h4 := List.mem_of_getElem? hq
      simp at h2
      exact h2 h4)]
    exact (hk p hp).1) hK) (fun vs W hB hG => by rw [upTo_puts vs hds]; exact hfin vs W hB hG)
end
end Go.Proofs.Ytiahfgcfgpakiaa.Facts


