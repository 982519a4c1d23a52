/- EpocSafe, the state: epochs, and a map that holds when each thing was retired; what the functions do with both. -/
import Derived.Maps.Own
import Derived.Maps.OwnOps
import Derived.Maps.Views
import Derived.Test.YtnpeklimpdljbaaEpocUse
namespace Go.Proofs.Ytnpeklimpdljbaa.EpocSafeM
open Go.RowKit Go.Maps Go.Proofs.YtnpeklimpdljbaaKit Go.Proofs.YtnpeklimpdljbaaW.PrintWords Go.Proofs.YtnpeklimpdljbaaW.PrintLast Go.Proofs.Ytnpeklimpdljbaa.EpocBase Go.Proofs.Ytnpeklimpdljbaa.EpocOps Go.Proofs.Ytnpeklimpdljbaa.EpocRows Go.Proofs.Ytnpeklimpdljbaa.EpocAdv Go.Proofs.Ytnpeklimpdljbaa.EpocUse
set_option linter.unusedVariables false
set_option linter.unusedSimpArgs false
theorem law3 : Keyed Try.prog 3 := int_keyed Try.underlying3
theorem zero3 (w : World) : (zeroValue 3).run Try.prog w = .ok (.int .i64 0) w := by kernel_rfl
theorem wf_of {x : Int} (h0 : -9000000000000000000 ≤ x) (h1 : x ≤ 9000000000000000000) : (Lit.int .i64 x).wf = true := WalkArith.wf_i64 (by omega)
theorem wpList_wanted {P : Program} {ops : Array Oper} {rest : List Oper} {o : Oper} {a : Act} {w : World} {Q : Exit → Act → World → Prop} (hw : Region.wanted o (yielded ops a.tmps) = true)
    (h : ∀ K : Act → World → Prop, (∀ a w, wpList P ops Q rest a w → K a w) → o.wp P a w K Q) : wpList P ops Q (o :: rest) a w := wpList_step fun K hK => by rw [if_pos hw]; exact h K hK
theorem lookup_guard_int {H : Type} {P : Program} (w : World) {ops : Array Oper} {rest : List Oper} {o : Oper} {a : Act} {Q : Exit → Act → World → Prop}
    (hg : Region.wanted o (yielded ops a.tmps) = true) (m x : Operand) (t : TypeId) (hop : o.op = Op.lookup t m x false)
    (k e : TypeId) (q : IntKind) (K : Keyed P k) (ht : P.underlying t = some (.map k e)) (he : P.underlying e = some (.int q)) (hz : (zeroValue e).run P w = .ok (.int q 0) w) (b n : Nat) (D : DataW H)
    (hm : a.eval m = .map (some b)) (hown : w.ownsMap P k (plainElem P e) b n D) (key : Value) (kl : Lit) (hx : a.eval x = key) (hkey : keyOf P k key = some kl)
    (hK : ∀ c : Int, D.atKey kl (.lit (.int q 0)) = .lit (.int q c) → (Lit.int q c).wf = true → wpList P ops Q rest (a.put o.dst (.int q c)) w) :
    wpList P ops Q (o :: rest) a w := by
  refine wpList_wanted hg fun K' hK' => ?_
  obtain ⟨c, hrun, hat, hwc⟩ := hown.lookup_int K ht he hz hkey
  unfold Oper.wp
  simp [execOp, hop, hm, hx, hrun, Result.andThen]
  exact hK' _ _ (hK c hat hwc)
theorem Ep.grown {w W w1 : World} {g pb : Nat} {lb row : Option Nat} {cap : Nat} {now : Int} {ps : List Int} {xs : List (Int × Int)} (h : Ep w W g pb lb cap now ps xs) (hg : W.grownBy w1 row) (hr : ∀ b, row = some b → g < b ∧ some b ≠ lb) : Ep w w1 g pb lb cap now ps xs := by
  have hlt := h.lt
  have hge := h.ge
  refine ⟨(hg.block g (bs_lt h.obj) (fun e => by have := (hr g e.symm).1; omega)).trans h.obj, (hg.block pb (bs_lt h.pins) (fun e => by have := (hr pb e.symm).1; omega)).trans h.pins, Own.grown h.own hg (fun b hb e => (hr b e.symm).2 hb.symm), h.lt, h.ge, below_grown h.below h.below.size hg (fun b hb => by have := (hr b hb).1; omega)⟩
abbrev Dw := DataW Unit
def At (D : Dw) (x a : Int) : Prop := D.atKey (.int .i64 x) (.lit (.int .i64 0)) = .lit (.int .i64 a)
/-- The epochs, and the map at block B. -/
structure Sx (w W : World) (g pb : Nat) (lb : Option Nat) (cap B : Nat) (now : Int) (ps : List Int) (xs : List (Int × Int)) (m : Nat) (D : Dw) : Prop where
  ep : Ep w W g pb lb cap now ps xs
  map : W.ownsMap Try.prog 3 (plainElem Try.prog 3) B m D
  gb : g < B
  ne : some B ≠ lb
/-- What is known of what they hold. -/
structure Inv (n i : Nat) (now : Int) (ps : List Int) (xs : List (Int × Int)) (D : Dw) : Prop where
  len : ps.length = n
  ps : ∀ p ∈ ps, 0 ≤ p ∧ p ≤ now + 1
  xl : xs.length ≤ i
  xs : ∀ x ∈ xs, x.2 ≤ now ∧ (0 ≤ x.1 ∧ x.1 < 1000 + i) ∧ At D x.1 x.2
  now : 0 ≤ now ∧ now ≤ i
theorem ownsMap_of {W W' : World} {B m : Nat} {D : Dw} (h : W.ownsMap Try.prog 3 (plainElem Try.prog 3) B m D) (e : W'.heap[B]? = W.heap[B]?) : W'.ownsMap Try.prog 3 (plainElem Try.prog 3) B m D := by
  obtain ⟨es, clock, hb, r⟩ := h
  exact ⟨es, clock, e.trans hb, r⟩
theorem ownsMap_lt {W : World} {B m : Nat} {D : Dw} (h : W.ownsMap Try.prog 3 (plainElem Try.prog 3) B m D) : B < W.heap.size := by
  obtain ⟨es, clock, hb, r⟩ := h
  exact bs_lt hb
section
variable {w W W' : World} {g pb : Nat} {lb lb' : Option Nat} {cap cap' B n i m : Nat} {now now' : Int} {ps ps' : List Int} {xs xs' : List (Int × Int)} {D : Dw}
theorem Sx.fr (h : Sx w W g pb lb cap B now ps xs m D) (he : Ep w W' g pb lb' cap' now' ps' xs') (hf : Fr g pb W lb W' lb') : Sx w W' g pb lb' cap' B now' ps' xs' m D := by
  have hgb := h.gb
  have hlt := h.ep.lt
  have hB := ownsMap_lt h.map
  exact ⟨he, ownsMap_of h.map (hf.block B hB (by omega) (by omega) h.ne), h.gb, hf.own B hB h.ne⟩
theorem Sx.below (h : Sx w W g pb lb cap B now ps xs m D) (hb : Below W.heap.size W W') : Sx w W' g pb lb cap B now ps xs m D := h.fr (h.ep.below_then hb) (Fr.of_below hb)
theorem Sx.put {m' : Nat} {D' : Dw} (h : Sx w W g pb lb cap B now ps xs m D) (ho : W'.ownsMap Try.prog 3 (plainElem Try.prog 3) B m' D') (hg : W.grownBy W' (some B)) : Sx w W' g pb lb cap B now ps xs m' D' :=
  ⟨Ep.grown h.ep hg (fun b e => by cases e; exact ⟨h.gb, h.ne⟩), ho, h.gb, h.ne⟩
theorem Inv.at_ (h : Inv n i now ps xs D) {t : Nat} (ht : t < n) : ∃ p, ps[t]? = some p ∧ 0 ≤ p ∧ p ≤ now + 1 := by
  have hl : t < ps.length := by rw [h.len]; exact ht
  exact ⟨ps[t], List.getElem?_eq_getElem hl, h.ps _ (List.getElem_mem hl)⟩
theorem Inv.set (h : Inv n i now ps xs D) (t : Nat) (p : Int) (hp : 0 ≤ p ∧ p ≤ now + 1) : Inv n i now (ps.set t p) xs D :=
  ⟨by rw [List.length_set]; exact h.len, fun q hq => by
    rcases List.mem_or_eq_of_mem_set hq with h1 | rfl
    · exact h.ps q h1
    · exact hp, h.xl, h.xs, h.now⟩
theorem Inv.next (h : Inv n i now ps xs D) : Inv n (i + 1) now ps xs D :=
  ⟨h.len, h.ps, Nat.le_succ_of_le h.xl, fun x hx => ⟨(h.xs x hx).1, by have := (h.xs x hx).2.1; omega, (h.xs x hx).2.2⟩, by have := h.now; omega⟩
theorem Inv.push (h : Inv n i now ps xs D) (hD : IsMap D) : Inv n (i + 1) now ps (xs ++ [(1000 + (i : Int), now)]) (D.put (.int .i64 (1000 + (i : Int))) (.lit (.int .i64 now))) := by
  refine ⟨h.len, h.ps, by rw [List.length_append]; have := h.xl; simp; omega, fun x hx => ?_, by have := h.now; omega⟩
  rcases List.mem_append.1 hx with hx | hx
  · obtain ⟨h1, h2, h3⟩ := h.xs x hx
    refine ⟨h1, by omega, ?_⟩
    unfold At
    rw [atKey_put_other (by intro e; injection e with _ e; omega)]
    exact h3
  · obtain rfl := List.mem_singleton.1 hx
    refine ⟨Int.le_refl _, by show 0 ≤ 1000 + (i : Int) ∧ 1000 + (i : Int) < 1000 + ((i + 1 : Nat) : Int); omega, ?_⟩
    exact atKey_put_same hD (by trivial) _ _
theorem Inv.adv (h : Inv n i now ps xs D) : Inv n (i + 1) (now + 1) ps (rest now xs) D := by
  refine ⟨h.len, fun p hp => by have := h.ps p hp; omega, Nat.le_trans (List.length_filter_le _ _) (Nat.le_succ_of_le h.xl), fun x hx => ?_, by have := h.now; omega⟩
  obtain ⟨h1, h2, h3⟩ := h.xs x (List.mem_filter.1 hx).1
  exact ⟨by omega, by omega, h3⟩
theorem mem_out {z : Int} (hz : z ∈ out now xs) : ∃ a, (z, a) ∈ xs ∧ a ≤ now - 1 := by
  unfold out at hz
  obtain ⟨x, hx, rfl⟩ := List.mem_map.1 hz
  obtain ⟨h1, h2⟩ := List.mem_filter.1 hx
  exact ⟨x.2, h1, of_decide_eq_true h2⟩
theorem s_pin (h : Sx w W g pb lb cap B now ps xs m D) (hi : Inv n i now ps xs D) (hi80 : i ≤ 80) (t : Nat) (ht : t < n) :
    Calls Try.prog 14 #[.pointer (some ⟨g, 0, none⟩), .int .i64 (t : Int)] W fun e W' => ∃ b ps', e = .returned (.bool b) ∧ Sx w W' g pb lb cap B now ps' xs m D ∧ Inv n (i + 1) now ps' xs D := by
  obtain ⟨p, hp, hp0, hp1⟩ := hi.at_ ht
  have hn := hi.now
  by_cases h0 : p = 0
  · subst h0
    exact (pin_yes t w W g pb lb cap now ps xs h.ep (by omega) (by simpa using hp) (by omega)).mono fun e W' ⟨h1, h2, h3⟩ => ⟨_, _, h1, h.fr h2 h3, (hi.set _ _ (by omega)).next⟩
  · exact (pin_had t p w W g pb lb cap now ps xs h.ep (by omega) (by simpa using hp) (by omega) (by omega)).mono fun e W' ⟨h1, h2⟩ => ⟨_, _, h1, by rw [h2]; exact h, hi.next⟩
theorem s_unpin (h : Sx w W g pb lb cap B now ps xs m D) (hi : Inv n i now ps xs D) (hi80 : i ≤ 80) (t : Nat) (ht : t < n) :
    Calls Try.prog 18 #[.pointer (some ⟨g, 0, none⟩), .int .i64 (t : Int)] W fun e W' => ∃ b, e = .returned (.bool b) ∧ Sx w W' g pb lb cap B now (ps.set t 0) xs m D ∧ Inv n i now (ps.set t 0) xs D := by
  obtain ⟨p, hp, hp0, hp1⟩ := hi.at_ ht
  have hn := hi.now
  by_cases h0 : p = 0
  · subst h0
    have hs : ps.set t 0 = ps := by
      apply List.ext_getElem?
      intro j
      by_cases hj : j = t
      · subst hj; rw [hp, List.getElem?_set_self (List.getElem?_eq_some_iff.1 hp).1]
      · rw [List.getElem?_set_ne (Ne.symm hj)]
    exact (unpin_no t w W g pb lb cap now ps xs h.ep (.inr (by simp [hp]))).mono fun e W' ⟨h1, h2⟩ => ⟨_, h1, by rw [h2, hs]; exact h, hi.set _ _ (by omega)⟩
  · exact (unpin_yes t p w W g pb lb cap now ps xs h.ep (by omega) (by simpa using hp) (by omega) (by omega)).mono fun e W' ⟨h1, h2, h3⟩ => ⟨_, h1, h.fr (by simpa using h2) h3, hi.set _ _ (by omega)⟩
theorem s_retire (h : Sx w W g pb lb cap B now ps xs m D) (hi : Inv n i now ps xs D) (hi80 : i ≤ 80) (x : Int) :
    Calls Try.prog 8 #[.pointer (some ⟨g, 0, none⟩), .int .i64 x] W fun e W' => ∃ lb' cap', e = .returned (.tuple #[]) ∧ Sx w W' g pb lb' cap' B now ps (xs ++ [(x, now)]) m D :=
  (retire_calls x w W g pb lb cap now ps xs h.ep (by have := hi.xl; omega)).mono fun e W' ⟨h1, lb', cap', h2, h3⟩ => ⟨lb', cap', h1, h.fr h2 h3⟩
/-- What was given back was retired ahead of what is pinned. -/
def Safe (D : Dw) (ps l : List Int) : Prop := ∀ z ∈ l, (0 ≤ z ∧ z ≤ 2000) ∧ ∃ a, At D z a ∧ ∀ p ∈ ps, 0 < p → a < p - 1
theorem can_at (hc : canB now ps = true) {p : Int} (hp : p ∈ ps) (h0 : 0 < p) : now ≤ p - 1 := by
  unfold canB at hc
  have := List.all_eq_true.1 hc p hp
  simp [okP, h0] at this
  omega
theorem s_adv (h : Sx w W g pb lb cap B now ps xs m D) (hi : Inv n i now ps xs D) (hi80 : i ≤ 80) (hn : n ≤ 8) :
    Calls Try.prog 9 #[.pointer (some ⟨g, 0, none⟩)] W fun e W' => ∃ oa oc l b now' xs' lb' cap', e = .returned (.tuple #[.slice oa l.length oc, .bool b]) ∧ RD W' W.heap.size oa l ∧ Safe D ps l ∧ l.length ≤ 80 ∧ Sx w W' g pb lb' cap' B now' ps xs' m D ∧ Inv n (i + 1) now' ps xs' D := by
  have hnow := hi.now
  have hps : ∀ p ∈ ps, 0 ≤ p ∧ p ≤ 1000000 := fun p hp => by have := hi.ps p hp; omega
  have hpl : ps.length ≤ 1000 := by rw [hi.len]; omega
  cases hc : canB now ps with
  | true =>
    refine (adv_rd w W g pb lb cap now ps xs h.ep hps hpl (by have := hi.xl; omega) (by omega) hc).mono fun e W' ⟨oa, oc, lb', cap', h1, h2, h3, h4⟩ => ⟨oa, oc, _, true, _, _, lb', cap', h1, h2, fun z hz => ?_, ?_, h.fr h3 h4, hi.adv⟩
    · obtain ⟨a, ha, hle⟩ := mem_out hz
      exact ⟨by have := (hi.xs _ ha).2.1; simp only at this; omega, a, (hi.xs _ ha).2.2, fun p hp h0 => by have := can_at hc hp h0; omega⟩
    · have := out_le now xs xs.length
      rw [List.take_length] at this
      have := hi.xl
      omega
  | false =>
    exact (adv_no w W g pb lb cap now ps xs h.ep hps hpl hc).mono fun e W' ⟨h1, h2⟩ => ⟨none, 0, [], false, now, xs, lb, cap, h1, RD.nil _ _, fun z hz => by simp at hz, by simp, by rw [h2]; exact h, hi.next⟩
/-- With nobody pinned each advance goes, and within two all is given back. -/
def Gone (j : Nat) (now : Int) (xs : List (Int × Int)) : Prop := (j = 0 → ∀ x ∈ xs, x.2 ≤ now) ∧ (j = 1 → ∀ x ∈ xs, x.2 ≤ now - 1) ∧ (2 ≤ j → xs = [])
theorem Gone.next {j : Nat} (h : Gone j now xs) : Gone (j + 1) (now + 1) (rest now xs) := by
  obtain ⟨h0, h1, h2⟩ := h
  refine ⟨fun e => by omega, fun e x hx => ?_, fun e => ?_⟩
  · have := h0 (by omega) x (List.mem_filter.1 hx).1
    omega
  · by_cases hj : j = 1
    · unfold rest
      rw [List.filter_eq_nil_iff.2]
      intro x hx
      have := h1 hj x hx
      simp; omega
    · rw [h2 (by omega)]; rfl
theorem s_last (h : Sx w W g pb lb cap B now ps xs m D) (hz : ∀ p ∈ ps, p = 0) (hpl : ps.length ≤ 8) (hxl : xs.length ≤ 80) (hnow : 0 ≤ now ∧ now ≤ 90) (j : Nat) (hg : Gone j now xs) :
    Calls Try.prog 9 #[.pointer (some ⟨g, 0, none⟩)] W fun e W' => ∃ oa oc l xs' lb' cap', e = .returned (.tuple #[.slice oa l oc, .bool true]) ∧ xs'.length ≤ 80 ∧ Gone (j + 1) (now + 1) xs' ∧ Sx w W' g pb lb' cap' B (now + 1) ps xs' m D :=
  (adv_rd w W g pb lb cap now ps xs h.ep (fun p hp => by have := hz p hp; omega) (by omega) (by omega) (by omega) (by
    unfold canB
    rw [List.all_eq_true]
    intro p hp
    rw [hz p hp]
    simp [okP])).mono fun e W' ⟨oa, oc, lb', cap', h1, h2, h3, h4⟩ => ⟨oa, oc, _, _, lb', cap', h1, Nat.le_trans (List.length_filter_le _ _) hxl, hg.next, h.fr h3 h4⟩
end
theorem RD.at_ {W : World} {base : Nat} {oa : Option Addr} {l : List Int} (h : RD W base oa l) {j : Nat} {z : Int} (hz : l[j]? = some z) : ∃ b, oa = some ⟨b, 0, none⟩ ∧ W.cell? ⟨b, j, none⟩ = some (.int .i64 z) := by
  obtain ⟨ob, h1, h2, h3⟩ := h.out
  obtain ⟨b, h4, h5⟩ := h2 j z hz
  exact ⟨b, by rw [h1, h4]; rfl, h5⟩
def Zer (k : Nat) (ps : List Int) : Prop := ∀ j p, j < k → ps[j]? = some p → p = 0
theorem Zer.set {k : Nat} {ps : List Int} (h : Zer k ps) : Zer (k + 1) (ps.set k 0) := fun j p hj hp => by
  by_cases e : j = k
  · subst e
    rw [List.getElem?_set] at hp
    split at hp
    · split at hp
      · cases hp; rfl
      · cases hp
    · rename_i h; exact absurd rfl h
  · rw [List.getElem?_set_ne (fun h => e h.symm)] at hp
    exact h j p (by omega) hp
theorem Zer.all {n : Nat} {ps : List Int} (h : Zer n ps) (hl : ps.length = n) : ∀ p ∈ ps, p = 0 := fun p hp => by
  obtain ⟨j, hj⟩ := List.getElem?_of_mem hp
  exact h j p (by rw [← hl]; exact (List.getElem?_eq_some_iff.1 hj).1) hj
end Go.Proofs.Ytnpeklimpdljbaa.EpocSafeM

