/- EpocPlays, the state: the epochs and the reference's epochs beside each other; what the functions do with both. -/
import Derived.Test.YtnpeklimpdljbaaEpocRef3
import Derived.Test.YtnpeklimpdljbaaEpocRef4
namespace Go.Proofs.Ytnpeklimpdljbaa.EpocPlaysM
open Go.RowKit Go.Proofs.YtnpeklimpdljbaaKit Go.Proofs.YtnpeklimpdljbaaW.PrintWords Go.Proofs.YtnpeklimpdljbaaW.PrintLast Go.Proofs.Ytnpeklimpdljbaa.EpocBase Go.Proofs.Ytnpeklimpdljbaa.EpocOps Go.Proofs.Ytnpeklimpdljbaa.EpocRows Go.Proofs.Ytnpeklimpdljbaa.EpocAdv Go.Proofs.Ytnpeklimpdljbaa.EpocUse Go.Proofs.Ytnpeklimpdljbaa.EpocRef Go.Proofs.Ytnpeklimpdljbaa.EpocRef2 Go.Proofs.Ytnpeklimpdljbaa.EpocRef3 Go.Proofs.Ytnpeklimpdljbaa.EpocRef4
set_option linter.unusedVariables false
set_option linter.unusedSimpArgs false
/-- Both, apart from each other. -/
structure Bo (w W : World) (g pb : Nat) (lb : Option Nat) (cap : Nat) (now : Int) (ps : List Int) (xs : List (Int × Int)) (h : Nat) (q r s : Option Nat) (qc rc sc : Nat) (nr : Int) (pr L T : List Int) : Prop where
  ep : Ep w W g pb lb cap now ps xs
  rf : Rf w W h q r s qc rc sc nr pr L T
  gh : g < h
  lh : lb ≠ some h
  lq : ∀ b, q = some b → lb ≠ some b
  lr : ∀ b, r = some b → lb ≠ some b
  ls : ∀ b, s = some b → lb ≠ some b
section
variable {w W W' : World} {g pb : Nat} {lb : Option Nat} {cap : Nat} {now : Int} {ps : List Int} {xs : List (Int × Int)} {h : Nat} {q r s : Option Nat} {qc rc sc : Nat} {nr : Int} {pr L T : List Int}
theorem Bo.ep_step {lb' : Option Nat} {cap' : Nat} {now' : Int} {ps' : List Int} {xs' : List (Int × Int)} (B : Bo w W g pb lb cap now ps xs h q r s qc rc sc nr pr L T) (he : Ep w W' g pb lb' cap' now' ps' xs') (hf : Fr g pb W lb W' lb') :
    Bo w W' g pb lb' cap' now' ps' xs' h q r s qc rc sc nr pr L T := by
  have hs := bs_lt B.rf.obj
  have hgh := B.gh
  have hpb := B.ep.lt
  have hq := own_ge B.rf.pins
  have hr := own_ge B.rf.l
  have hs2 := own_ge B.rf.when
  refine ⟨he, ⟨(hf.block h hs (by omega) (by omega) (fun e => B.lh e.symm)).trans B.rf.obj, B.rf.pins.keep fun b e hlt => hf.block b hlt (by have := hq b e; omega) (by have := hq b e; omega) (fun e2 => B.lq b e e2.symm), B.rf.l.keep fun b e hlt => hf.block b hlt (by have := hr b e; omega) (by have := hr b e; omega) (fun e2 => B.lr b e e2.symm),
    B.rf.when.keep fun b e hlt => hf.block b hlt (by have := hs2 b e; omega) (by have := hs2 b e; omega) (fun e2 => B.ls b e e2.symm), B.rf.qr, B.rf.qs, B.rf.rs, B.rf.ge, he.below⟩, hgh, fun e => hf.own h hs (fun e2 => B.lh e2.symm) e.symm, fun b e e2 => hf.own b (hq b e).2 (fun e3 => B.lq b e e3.symm) e2.symm, fun b e e2 => hf.own b (hr b e).2 (fun e3 => B.lr b e e3.symm) e2.symm, fun b e e2 => hf.own b (hs2 b e).2 (fun e3 => B.ls b e e3.symm) e2.symm⟩
theorem Bo.rf_step {q' r' s' : Option Nat} {qc' rc' sc' : Nat} {nr' : Int} {pr' L' T' : List Int} (B : Bo w W g pb lb cap now ps xs h q r s qc rc sc nr pr L T) (hr : Rf w W' h q' r' s' qc' rc' sc' nr' pr' L' T') (hf : Fq h W q r s W' q' r' s') :
    Bo w W' g pb lb cap now ps xs h q' r' s' qc' rc' sc' nr' pr' L' T' := by
  have hs := bs_lt B.ep.obj
  have hp := bs_lt B.ep.pins
  have hgh := B.gh
  have hpb := B.ep.lt
  have h1 := own_ge B.rf.pins
  have h2 := own_ge B.rf.l
  have h3 := own_ge B.rf.when
  have hl := own_ge B.ep.own
  have key : ∀ b, lb = some b → some b ≠ q ∧ some b ≠ r ∧ some b ≠ s := fun b e => ⟨fun e2 => B.lq b e2.symm e, fun e2 => B.lr b e2.symm e, fun e2 => B.ls b e2.symm e⟩
  have key2 : ∀ b, lb = some b → some b ≠ q' ∧ some b ≠ r' ∧ some b ≠ s' := fun b e => hf.own b (hl b e).2 (key b e).1 (key b e).2.1 (key b e).2.2
  have lo : ∀ k, k ≤ g → some k ≠ q ∧ some k ≠ r ∧ some k ≠ s := fun k hk => ⟨fun e => by have := h1 k e.symm; omega, fun e => by have := h2 k e.symm; omega, fun e => by have := h3 k e.symm; omega⟩
  refine ⟨⟨(hf.block g hs (by omega) (lo g (by omega)).1 (lo g (by omega)).2.1 (lo g (by omega)).2.2).trans B.ep.obj, (hf.block pb hp (by omega) (lo pb (by omega)).1 (lo pb (by omega)).2.1 (lo pb (by omega)).2.2).trans B.ep.pins,
    B.ep.own.keep fun b e hlt => hf.block b hlt (fun e2 => B.lh (by rw [e, e2])) (key b e).1 (key b e).2.1 (key b e).2.2, B.ep.lt, B.ep.ge, hr.below⟩, hr, hgh, B.lh, fun b e e2 => (key2 b e2).1 e.symm, fun b e e2 => (key2 b e2).2.1 e.symm, fun b e e2 => (key2 b e2).2.2 e.symm⟩
theorem Bo.then_ (B : Bo w W g pb lb cap now ps xs h q r s qc rc sc nr pr L T) (hb : Below W.heap.size W W') : Bo w W' g pb lb cap now ps xs h q r s qc rc sc nr pr L T :=
  ⟨B.ep.below_then hb, B.rf.below_then hb, B.gh, B.lh, B.lq, B.lr, B.ls⟩
/-- What was given back by the one stays while the other goes on. -/
theorem rd_fq {q' r' s' : Option Nat} {W0 : World} {oa : Option Addr} {l : List Int} (R : RD W W0.heap.size oa l) (f : Rf w W0 h q r s qc rc sc nr pr L T) (hf : Fq h W q r s W' q' r' s') : RD W' W0.heap.size oa l :=
  R.keep fun b hb hlt => by
    have h0 := bs_lt f.obj
    have h1 := own_ge f.pins
    have h2 := own_ge f.l
    have h3 := own_ge f.when
    exact hf.block b hlt (by omega) (fun e => by have := h1 b e.symm; omega) (fun e => by have := h2 b e.symm; omega) (fun e => by have := h3 b e.symm; omega)
end
theorem rd_keep {w W0 W W' : World} {g pb h : Nat} {lb lb3 q r s q' r' s' : Option Nat} {qc rc sc qc' rc' sc' : Nat} {n1 n2 : Int} {p1 p2 L1 L2 T1 T2 : List Int} {oa : Option Addr} {l : List Int} (hF : Fr g pb W0 lb W lb3) (R : RD W W0.heap.size oa l) (f0 : Rf w W0 h q r s qc rc sc n1 p1 L1 T1) (f : Rf w W h q r s qc' rc' sc' n2 p2 L2 T2) (hf : Fq h W q r s W' q' r' s') : RD W' W0.heap.size oa l := rd_fq R f0 hf
def pinB (ps : List Int) (t : Int) : Bool := decide (0 ≤ t) && decide (ps[t.toNat]? = some 0)
def pinS (now : Int) (ps : List Int) (t : Int) : List Int := if pinB ps t then ps.set t.toNat (now + 1) else ps
def inB (ps : List Int) (t : Int) : Bool := decide (0 ≤ t) && decide (0 < (ps[t.toNat]?).getD 0)
def unS (ps : List Int) (t : Int) : List Int := if inB ps t then ps.set t.toNat 0 else ps
def subs (ps : List Int) : List Int := ps.map (· - 1)
def advL (now : Int) (ps : List Int) (xs : List (Int × Int)) : List Int := if canB now ps then out now xs else []
def advX (now : Int) (ps : List Int) (xs : List (Int × Int)) : List (Int × Int) := if canB now ps then rest now xs else xs
def advN (now : Int) (ps : List Int) : Int := if canB now ps then now + 1 else now
/-- What is known of what they hold. -/
structure Inv (i : Nat) (now : Int) (ps : List Int) (xs : List (Int × Int)) : Prop where
  len : ps.length ≤ 8
  ps : ∀ p ∈ ps, 0 ≤ p ∧ p ≤ now + 1
  xl : xs.length ≤ i
  now : 0 ≤ now ∧ now ≤ i
section
variable {i : Nat} {now : Int} {ps : List Int} {xs : List (Int × Int)}
theorem subs_get (k : Nat) : (subs ps)[k]? = (ps[k]?).map (· - 1) := by unfold subs; rw [List.getElem?_map]
theorem subs_len : (subs ps).length = ps.length := by simp [subs]
theorem subs_set (k : Nat) (p : Int) : subs (ps.set k p) = (subs ps).set k (p - 1) := by unfold subs; rw [List.map_set]
theorem Inv.next (h : Inv i now ps xs) : Inv (i + 1) now ps xs := ⟨h.len, h.ps, by have := h.xl; omega, by have := h.now; omega⟩
theorem Inv.set (h : Inv i now ps xs) (t : Nat) (p : Int) (hp : 0 ≤ p ∧ p ≤ now + 1) : Inv i now (ps.set t p) xs :=
  ⟨by rw [List.length_set]; exact h.len, fun q hq => by
    rcases List.mem_or_eq_of_mem_set hq with h1 | rfl
    · exact h.ps q h1
    · exact hp, h.xl, h.now⟩
theorem Inv.pin (h : Inv i now ps xs) (t : Int) : Inv i now (pinS now ps t) xs := by
  unfold pinS
  split
  · exact h.set _ _ (by have := h.now; omega)
  · exact h
theorem Inv.un (h : Inv i now ps xs) (t : Int) : Inv i now (unS ps t) xs := by
  unfold unS
  split
  · exact h.set _ _ (by have := h.now; omega)
  · exact h
theorem Inv.push (h : Inv i now ps xs) (x : Int) : Inv (i + 1) now ps (xs ++ [(x, now)]) := ⟨h.len, h.ps, by rw [List.length_append]; have := h.xl; simp; omega, by have := h.now; omega⟩
theorem Inv.adv (h : Inv i now ps xs) : Inv (i + 1) (advN now ps) ps (advX now ps xs) := by
  unfold advN advX
  split
  · exact ⟨h.len, fun p hp => by have := h.ps p hp; omega, Nat.le_trans (List.length_filter_le _ _) (Nat.le_succ_of_le h.xl), by have := h.now; omega⟩
  · exact h.next
theorem advL_le : (advL now ps xs).length ≤ xs.length := by
  unfold advL out
  split
  · rw [List.length_map]; exact List.length_filter_le _ _
  · exact Nat.zero_le _
theorem bad_of (hc : canB now ps = false) : ∃ (k : Nat) (p : Int), (subs ps)[k]? = some p ∧ Bad now p := by
  unfold canB at hc
  rw [List.all_eq_false] at hc
  obtain ⟨p, hp, ho⟩ := hc
  obtain ⟨k, hk⟩ := List.getElem?_of_mem hp
  simp [okP] at ho
  exact ⟨k, p - 1, by rw [subs_get, hk]; rfl, by unfold Bad; omega⟩
theorem ok_of (hc : canB now ps = true) : ∀ p ∈ subs ps, ¬ Bad now p := fun p hp hb => by
  unfold canB at hc
  unfold subs at hp
  obtain ⟨z, hz, rfl⟩ := List.mem_map.1 hp
  have := List.all_eq_true.1 hc z hz
  simp [okP] at this
  unfold Bad at hb
  omega
end
section
variable (w W : World) (g pb : Nat) (lb : Option Nat) (cap : Nat) (i : Nat) (now : Int) (ps : List Int) (xs : List (Int × Int)) (h : Nat) (q r s : Option Nat) (qc rc sc : Nat)
theorem e_pin (t : Int) (hi : i ≤ 200) (I : Inv i now ps xs) (E : Ep w W g pb lb cap now ps xs) :
    Calls Try.prog 14 #[.pointer (some ⟨g, 0, none⟩), .int .i64 t] W fun e W' => e = .returned (.bool (pinB ps t)) ∧ Ep w W' g pb lb cap now (pinS now ps t) xs ∧ Fr g pb W lb W' lb := by
  have hn := I.now
  by_cases h0 : 0 ≤ t
  · cases hp : ps[t.toNat]? with
    | none =>
      have hb : pinB ps t = false := by simp [pinB, hp]
      have hl := List.getElem?_eq_none_iff.1 hp
      rw [hb, show pinS now ps t = ps by simp [pinS, hb]]
      exact (pin_out t w W g pb lb cap now ps xs E (.inr (by omega))).mono fun e W' ⟨h1, h2⟩ => ⟨h1, by rw [h2]; exact E, by rw [h2]; exact Fr.of_below (be_refl _)⟩
    | some p =>
      have hp2 := I.ps p (List.mem_of_getElem? hp)
      by_cases hz : p = 0
      · subst hz
        have hb : pinB ps t = true := by simp [pinB, hp, h0]
        rw [hb, show pinS now ps t = ps.set t.toNat (now + 1) by simp [pinS, hb]]
        exact pin_yes t w W g pb lb cap now ps xs E h0 hp (by omega)
      · have hb : pinB ps t = false := by simp [pinB, hp, hz]
        rw [hb, show pinS now ps t = ps by simp [pinS, hb]]
        exact (pin_had t p w W g pb lb cap now ps xs E h0 hp (by omega) (by omega)).mono fun e W' ⟨h1, h2⟩ => ⟨h1, by rw [h2]; exact E, by rw [h2]; exact Fr.of_below (be_refl _)⟩
  · have hb : pinB ps t = false := by simp [pinB, h0]
    rw [hb, show pinS now ps t = ps by simp [pinS, hb]]
    exact (pin_out t w W g pb lb cap now ps xs E (.inl h0)).mono fun e W' ⟨h1, h2⟩ => ⟨h1, by rw [h2]; exact E, by rw [h2]; exact Fr.of_below (be_refl _)⟩
theorem e_unpin (t : Int) (hi : i ≤ 200) (I : Inv i now ps xs) (E : Ep w W g pb lb cap now ps xs) :
    Calls Try.prog 18 #[.pointer (some ⟨g, 0, none⟩), .int .i64 t] W fun e W' => e = .returned (.bool (inB ps t)) ∧ Ep w W' g pb lb cap now (unS ps t) xs ∧ Fr g pb W lb W' lb := by
  have hn := I.now
  by_cases hc : 0 ≤ t ∧ 0 < (ps[t.toNat]?).getD 0
  · obtain ⟨h0, h1⟩ := hc
    cases hp : ps[t.toNat]? with
    | none => rw [hp] at h1; simp at h1
    | some p =>
      rw [hp] at h1
      have h1' : 0 < p := h1
      have hp2 := I.ps p (List.mem_of_getElem? hp)
      have hb : inB ps t = true := by simp [inB, hp, h0, h1']
      rw [hb, show unS ps t = ps.set t.toNat 0 by simp [unS, hb]]
      exact unpin_yes t p w W g pb lb cap now ps xs E h0 hp h1' (by omega)
  · have hb : inB ps t = false := by
      simp only [inB, Bool.and_eq_false_iff, decide_eq_false_iff_not]
      by_cases h0 : 0 ≤ t
      · exact .inr (fun h1 => hc ⟨h0, h1⟩)
      · exact .inl h0
    rw [hb, show unS ps t = ps by simp [unS, hb]]
    refine (unpin_no t w W g pb lb cap now ps xs E ?_).mono fun e W' ⟨h1, h2⟩ => ⟨h1, by rw [h2]; exact E, by rw [h2]; exact Fr.of_below (be_refl _)⟩
    by_cases h0 : 0 ≤ t
    · refine .inr ?_
      cases hp : ps[t.toNat]? with
      | none => rfl
      | some p =>
        have hp2 := I.ps p (List.mem_of_getElem? hp)
        rw [hp] at hc
        show p = 0
        have : ¬ 0 < p := fun h1 => hc ⟨h0, h1⟩
        omega
    · exact .inl h0
theorem e_pinned (t : Int) (hi : i ≤ 200) (I : Inv i now ps xs) (E : Ep w W g pb lb cap now ps xs) :
    Calls Try.prog 15 #[.pointer (some ⟨g, 0, none⟩), .int .i64 t] W fun e W' => e = .returned (.tuple #[.int .i64 (if inB ps t then (ps[t.toNat]?).getD 0 - 1 else 0), .bool (inB ps t)]) ∧ W' = W := by
  have hn := I.now
  by_cases hc : 0 ≤ t ∧ 0 < (ps[t.toNat]?).getD 0
  · obtain ⟨h0, h1⟩ := hc
    cases hp : ps[t.toNat]? with
    | none => rw [hp] at h1; simp at h1
    | some p =>
      rw [hp] at h1
      have h1' : 0 < p := h1
      have hp2 := I.ps p (List.mem_of_getElem? hp)
      have hb : inB ps t = true := by simp [inB, hp, h0, h1']
      rw [hb]
      exact pinned_yes t p w W g pb lb cap now ps xs E h0 hp h1' (by omega)
  · have hb : inB ps t = false := by
      simp only [inB, Bool.and_eq_false_iff, decide_eq_false_iff_not]
      by_cases h0 : 0 ≤ t
      · exact .inr (fun h1 => hc ⟨h0, h1⟩)
      · exact .inl h0
    rw [hb]
    refine pinned_no t w W g pb lb cap now ps xs E ?_
    by_cases h0 : 0 ≤ t
    · refine .inr ?_
      cases hp : ps[t.toNat]? with
      | none => rfl
      | some p =>
        have hp2 := I.ps p (List.mem_of_getElem? hp)
        rw [hp] at hc
        show p = 0
        have : ¬ 0 < p := fun h1 => hc ⟨h0, h1⟩
        omega
    · exact .inl h0
theorem r_pin (t : Int) (I : Inv i now ps xs) (f : Rf w W h q r s qc rc sc now (subs ps) (xs.map (·.1)) (xs.map (·.2))) :
    Calls Try.prog 17 #[.pointer (some ⟨h, 0, none⟩), .int .i64 t] W fun e W' => e = .returned (.bool (pinB ps t)) ∧ Rf w W' h q r s qc rc sc now (subs (pinS now ps t)) (xs.map (·.1)) (xs.map (·.2)) ∧ Fq h W q r s W' q r s := by
  by_cases h0 : 0 ≤ t
  · cases hp : ps[t.toNat]? with
    | none =>
      have hb : pinB ps t = false := by simp [pinB, hp]
      have hl := List.getElem?_eq_none_iff.1 hp
      rw [hb, show pinS now ps t = ps by simp [pinS, hb]]
      exact (rpin_out w W h q r s qc rc sc now (subs ps) _ _ t f (.inr (by rw [subs_len]; omega))).mono fun e W' ⟨h1, h2⟩ => ⟨h1, by rw [h2]; exact f, by rw [h2]; exact Fq.of_below (be_refl _)⟩
    | some p =>
      have hp2 := I.ps p (List.mem_of_getElem? hp)
      by_cases hz : p = 0
      · subst hz
        have hb : pinB ps t = true := by simp [pinB, hp, h0]
        rw [hb, show pinS now ps t = ps.set t.toNat (now + 1) by simp [pinS, hb], subs_set, show now + 1 - 1 = now by omega]
        exact rpin_yes w W h q r s qc rc sc now (subs ps) _ _ t f h0 (by rw [subs_get, hp]; rfl)
      · have hb : pinB ps t = false := by simp [pinB, hp, hz]
        rw [hb, show pinS now ps t = ps by simp [pinS, hb]]
        exact (rpin_had w W h q r s qc rc sc now (subs ps) _ _ t (p - 1) f h0 (by rw [subs_get, hp]; rfl) (by omega)).mono fun e W' ⟨h1, h2⟩ => ⟨h1, by rw [h2]; exact f, by rw [h2]; exact Fq.of_below (be_refl _)⟩
  · have hb : pinB ps t = false := by simp [pinB, h0]
    rw [hb, show pinS now ps t = ps by simp [pinS, hb]]
    exact (rpin_out w W h q r s qc rc sc now (subs ps) _ _ t f (.inl (by omega))).mono fun e W' ⟨h1, h2⟩ => ⟨h1, by rw [h2]; exact f, by rw [h2]; exact Fq.of_below (be_refl _)⟩
theorem r_unpin (t : Int) (I : Inv i now ps xs) (f : Rf w W h q r s qc rc sc now (subs ps) (xs.map (·.1)) (xs.map (·.2))) :
    Calls Try.prog 19 #[.pointer (some ⟨h, 0, none⟩), .int .i64 t] W fun e W' => e = .returned (.bool (inB ps t)) ∧ Rf w W' h q r s qc rc sc now (subs (unS ps t)) (xs.map (·.1)) (xs.map (·.2)) ∧ Fq h W q r s W' q r s := by
  by_cases h0 : 0 ≤ t
  · cases hp : ps[t.toNat]? with
    | none =>
      have hb : inB ps t = false := by simp [inB, hp]
      have hl := List.getElem?_eq_none_iff.1 hp
      rw [hb, show unS ps t = ps by simp [unS, hb]]
      exact (runpin_out w W h q r s qc rc sc now (subs ps) _ _ t f (.inr (by rw [subs_len]; omega))).mono fun e W' ⟨h1, h2⟩ => ⟨h1, by rw [h2]; exact f, by rw [h2]; exact Fq.of_below (be_refl _)⟩
    | some p =>
      have hp2 := I.ps p (List.mem_of_getElem? hp)
      by_cases hz : p = 0
      · subst hz
        have hb : inB ps t = false := by simp [inB, hp]
        rw [hb, show unS ps t = ps by simp [unS, hb]]
        exact (runpin_no w W h q r s qc rc sc now (subs ps) _ _ t f h0 (by rw [subs_get, hp]; rfl)).mono fun e W' ⟨h1, h2⟩ => ⟨h1, by rw [h2]; exact f, by rw [h2]; exact Fq.of_below (be_refl _)⟩
      · have hb : inB ps t = true := by simp [inB, hp, h0]; omega
        rw [hb, show unS ps t = ps.set t.toNat 0 by simp [unS, hb], subs_set]
        exact runpin_yes w W h q r s qc rc sc now (subs ps) _ _ t (p - 1) f h0 (by rw [subs_get, hp]; rfl) (by omega)
  · have hb : inB ps t = false := by simp [inB, h0]
    rw [hb, show unS ps t = ps by simp [unS, hb]]
    exact (runpin_out w W h q r s qc rc sc now (subs ps) _ _ t f (.inl (by omega))).mono fun e W' ⟨h1, h2⟩ => ⟨h1, by rw [h2]; exact f, by rw [h2]; exact Fq.of_below (be_refl _)⟩
theorem r_retire (x : Int) (hi : i ≤ 200) (I : Inv i now ps xs) (f : Rf w W h q r s qc rc sc now (subs ps) (xs.map (·.1)) (xs.map (·.2))) :
    Calls Try.prog 20 #[.pointer (some ⟨h, 0, none⟩), .int .i64 x] W fun e W' => e = .returned (.tuple #[]) ∧ ∃ r' s' rc' sc', Rf w W' h q r' s' qc rc' sc' now (subs ps) ((xs ++ [(x, now)]).map (·.1)) ((xs ++ [(x, now)]).map (·.2)) ∧ Fq h W q r s W' q r' s' := by
  rw [List.map_append, List.map_append]
  exact rretire x w W h q r s qc rc sc now (subs ps) _ _ f (by rw [List.length_map]; have := I.xl; omega) (by rw [List.length_map]; have := I.xl; omega)
theorem e_adv (hi : i ≤ 200) (I : Inv i now ps xs) (E : Ep w W g pb lb cap now ps xs) :
    Calls Try.prog 9 #[.pointer (some ⟨g, 0, none⟩)] W fun e W' => ∃ oa oc lb' cap', e = .returned (.tuple #[.slice oa (advL now ps xs).length oc, .bool (canB now ps)]) ∧ RD W' W.heap.size oa (advL now ps xs) ∧ Ep w W' g pb lb' cap' (advN now ps) ps (advX now ps xs) ∧ Fr g pb W lb W' lb' := by
  have hn := I.now
  have hps : ∀ p ∈ ps, 0 ≤ p ∧ p ≤ 1000000 := fun p hp => by have := I.ps p hp; omega
  have hpl : ps.length ≤ 1000 := by have := I.len; omega
  unfold advL advN advX
  cases hc : canB now ps with
  | true =>
    simp only [if_true]
    exact adv_rd w W g pb lb cap now ps xs E hps hpl (by have := I.xl; omega) (by omega) hc
  | false =>
    simp only [Bool.false_eq_true, if_false]
    exact (adv_no w W g pb lb cap now ps xs E hps hpl hc).mono fun e W' ⟨h1, h2⟩ => ⟨none, 0, lb, cap, h1, RD.nil _ _, by rw [h2]; exact E, by rw [h2]; exact Fr.of_below (be_refl _)⟩
theorem r_adv (hi : i ≤ 200) (I : Inv i now ps xs) (f : Rf w W h q r s qc rc sc now (subs ps) (xs.map (·.1)) (xs.map (·.2))) :
    Calls Try.prog 21 #[.pointer (some ⟨h, 0, none⟩)] W fun e W' => ∃ oa oc r' s' rc' sc', e = .returned (.tuple #[.slice oa (advL now ps xs).length oc, .bool (canB now ps)]) ∧ RD W' W.heap.size oa (advL now ps xs) ∧ Rf w W' h q r' s' qc rc' sc' (advN now ps) (subs ps) ((advX now ps xs).map (·.1)) ((advX now ps xs).map (·.2)) ∧ Fq h W q r s W' q r' s' := by
  have hn := I.now
  have hpl : (subs ps).length ≤ 1000 := by rw [subs_len]; have := I.len; omega
  unfold advL advN advX
  cases hc : canB now ps with
  | true =>
    simp only [if_true]
    exact (radv_yes w W h q r s qc rc sc now (subs ps) xs f hpl (by have := I.xl; omega) (by omega) (ok_of hc)).mono fun e W' ⟨o1, c1, r', s', rc', sc', h1, h2, h3, h4⟩ => ⟨o1.map fun b => ⟨b, 0, none⟩, c1, r', s', rc', sc', h1, RD.of h2, h3, h4⟩
  | false =>
    simp only [Bool.false_eq_true, if_false]
    obtain ⟨k, p, hk, hb⟩ := bad_of hc
    exact (radv_no k p w W h q r s qc rc sc now (subs ps) _ _ f hpl hk hb).mono fun e W' ⟨h1, h2⟩ => ⟨none, 0, r, s, rc, sc, h1, RD.nil _ _, f.below_then h2, Fq.of_below h2⟩
end
end Go.Proofs.Ytnpeklimpdljbaa.EpocPlaysM


