/- Histories: where an op was called first, or replied, and what stands before what: contracts, for every state. -/
import Derived.Test.YtkdfdcppeolbjaaHistRead
namespace Go.Proofs.Ytkdfdcppeolbjaa.HistFirst
open Go Go.RowKit Go.Maps Go.Proofs.YtkdfdcppeolbjaaKit Go.Proofs.Ytkdfdcppeolbjaa.Mem Go.Proofs.Ytkdfdcppeolbjaa.HistBase Go.Proofs.Ytkdfdcppeolbjaa.HistStill Go.Proofs.Ytkdfdcppeolbjaa.HistOps Go.Proofs.Ytkdfdcppeolbjaa.HistRead
attribute [local go_sem] cell_alloc_some cell_alloc2_some cell_alloc3_some cell_alloc4_some
set_option linter.unusedVariables false
set_option linter.unusedSimpArgs false
/-- Is an event of that kind, of that op? -/
def hit (t n k : Int) (e : Ev) : Bool := decide (e.1 = t) && decide (e.2.1 = n) && decide (e.2.2.1 = k)
theorem clos_calls (w : World) (e : Ev) (p1 p2 p3 : Nat) (t n k : Int) (x1 : w.cell? ⟨p1, 0, none⟩ = some (.int .i64 t)) (x2 : w.cell? ⟨p2, 0, none⟩ = some (.int .i64 n)) (x3 : w.cell? ⟨p3, 0, none⟩ = some (.int .i64 k)) :
    Calls Try.prog 20 #[.agg (evC e).toArray, .pointer (some ⟨p1, 0, none⟩), .pointer (some ⟨p2, 0, none⟩), .pointer (some ⟨p3, 0, none⟩)] w fun e' W' => e' = .returned (.bool (hit t n k e)) ∧ Below w.heap.size w W' := by
  obtain ⟨a, b, c, d⟩ := e
  have hb1 := World.block_lt_of_cell? w _ x1
  have hb2 := World.block_lt_of_cell? w _ x2
  have hb3 := World.block_lt_of_cell? w _ x3
  dsimp only at hb1 hb2 hb3
  have n1 : (w.heap.size = p1) = False := eq_false (by omega)
  have y1 := fun o => (World.cell?_alloc_lt w o ⟨p1, 0, none⟩ hb1).trans x1
  have y2 := fun o => (World.cell?_alloc_lt w o ⟨p2, 0, none⟩ hb2).trans x2
  have y3 := fun o => (World.cell?_alloc_lt w o ⟨p3, 0, none⟩ hb3).trans x3
  clear x1 x2 x3 hb1 hb2 hb3 n1
  dsimp only [evC]
  by_cases h1 : a = t
  · subst h1
    by_cases h2 : b = n
    · subst h2
      by_cases h3 : c = k
      · subst h3
        have hh : hit a b c (a, b, c, d) = true := by simp [hit]
        rw [hh]
        go_enter Try.func20, Try.ntmps20
        go_wp2
        go_ret
        exact ⟨rfl, be_alloc (be_refl _) (Nat.le_refl _)⟩
      · have hh : hit a b k (a, b, c, d) = false := by simp [hit, h3]
        have q3 : (c == k) = false := by simp [h3]
        rw [hh]
        go_enter Try.func20, Try.ntmps20
        go_wp2
        go_ret
        exact ⟨rfl, be_alloc (be_refl _) (Nat.le_refl _)⟩
    · have hh : hit a n k (a, b, c, d) = false := by simp [hit, h2]
      have q2 : (b == n) = false := by simp [h2]
      rw [hh]
      go_enter Try.func20, Try.ntmps20
      go_wp2
      go_ret
      exact ⟨rfl, be_alloc (be_refl _) (Nat.le_refl _)⟩
  · have hh : hit t n k (a, b, c, d) = false := by simp [hit, h1]
    have q1 : (a == t) = false := by simp [h1]
    rw [hh]
    go_enter Try.func20, Try.ntmps20
    go_wp2
    go_ret
    exact ⟨rfl, be_alloc (be_refl _) (Nat.le_refl _)⟩
/-- Where an event of that kind comes first; below 0: nowhere. -/
def firstI (evs : List Ev) (t n k : Int) : Int := match evs.findIdx? (hit t n k) with
  | some i => (i : Int)
  | none => -1
theorem firstI_at {evs : List Ev} {t n k : Int} {i : Nat} {e : Ev} (he : evs[i]? = some e) (hh : hit t n k e = true) (hno : ∀ (j : Nat) (e : Ev), j < i → evs[j]? = some e → hit t n k e = false) : firstI evs t n k = (i : Int) := by
  have : evs.findIdx? (hit t n k) = some i := by
    rw [List.findIdx?_eq_some_iff_getElem]
    have hl := (List.getElem?_eq_some_iff.1 he).1
    refine ⟨hl, ?_, fun j hj => ?_⟩
    · rw [(List.getElem?_eq_some_iff.1 he).2]; exact hh
    · have := hno j _ hj (List.getElem?_eq_getElem (by omega))
      simp [this]
  unfold firstI
  rw [this]
theorem firstI_no {evs : List Ev} {t n k : Int} (hno : ∀ (j : Nat) (e : Ev), evs[j]? = some e → hit t n k e = false) : firstI evs t n k = -1 := by
  have : evs.findIdx? (hit t n k) = none := by
    rw [List.findIdx?_eq_none_iff]
    intro e he
    obtain ⟨j, hj⟩ := List.getElem?_of_mem he
    exact hno j e hj
  unfold firstI
  rw [this]
/-- A row of events that may be read, at an address that may be nil. -/
def EvR (W : World) (oa : Option Addr) (evs : List Ev) : Prop := ∀ (i : Nat) (e : Ev), evs[i]? = some e → ∃ b, oa = some ⟨b, 0, none⟩ ∧ b < W.heap.size ∧ ∀ j, j < 12 → ∀ v, (evC e)[j]? = some v → W.cell? ⟨b, i * 12 + j, none⟩ = some v
theorem EvR.of {W : World} {base n cap : Nat} {lb : Option Nat} {evs : List Ev} (h : Own W base 49 12 lb n cap (flatE evs)) : EvR W (lb.map fun b => ⟨b, 0, none⟩) evs := fun i e he => by
  obtain ⟨b, h1, h2, h3⟩ := ev_cells h he
  exact ⟨b, by rw [h1]; rfl, h2, h3⟩
theorem EvR.below {W W' : World} {oa : Option Addr} {evs : List Ev} (h : EvR W oa evs) (hb : Below W.heap.size W W') : EvR W' oa evs := fun i e he => by
  obtain ⟨b, h1, h2, h3⟩ := h i e he
  exact ⟨b, h1, Nat.lt_of_lt_of_le h2 hb.size, fun j hj v hv => (hb.cell (p := ⟨b, i * 12 + j, none⟩) h2).trans (h3 j hj v hv)⟩
set_option maxHeartbeats 8000000 in
set_option maxRecDepth 100000 in
theorem index_calls (t n k : Int) (M : World) (oa : Option Addr) (cap : Nat) (evs : List Ev) (p1 p2 p3 : Nat) (hr : EvR M oa evs) (x1 : M.cell? ⟨p1, 0, none⟩ = some (.int .i64 t)) (x2 : M.cell? ⟨p2, 0, none⟩ = some (.int .i64 n)) (x3 : M.cell? ⟨p3, 0, none⟩ = some (.int .i64 k)) (hl : evs.length ≤ 1000000) :
    Calls Try.prog 19 #[.slice oa evs.length cap, .func (Fn.func 20) #[] #[.pointer (some ⟨p1, 0, none⟩), .pointer (some ⟨p2, 0, none⟩), .pointer (some ⟨p3, 0, none⟩)]] M fun e W' => e = .returned (.int .i64 (firstI evs t n k)) ∧ Below M.heap.size M W' := by
  have HR := hide hr
  have HC := hide (fun (W : World) (hb : Below M.heap.size M W) (e : Ev) => clos_calls W e p1 p2 p3 t n k ((hb.cell (p := ⟨p1, 0, none⟩) (World.block_lt_of_cell? M _ x1)).trans x1) ((hb.cell (p := ⟨p2, 0, none⟩) (World.block_lt_of_cell? M _ x2)).trans x2) ((hb.cell (p := ⟨p3, 0, none⟩) (World.block_lt_of_cell? M _ x3)).trans x3))
  clear hr x1 x2 x3
  obtain ⟨m, hm⟩ : ∃ m, evs.length = m := ⟨_, rfl⟩
  rw [hm] at hl ⊢
  have HM := hide hm
  clear hm
  go_enter Try.func19, Try.ntmps19
  go_wp2
  go_loopw [8] (fun v8 wr => ∃ i : Nat, i ≤ m ∧ v8 = .int .i64 (i : Int) ∧ Below M.heap.size M wr ∧ (∀ (j : Nat) (e : Ev), j < i → evs[j]? = some e → hit t n k e = false)) (fun v8 _ => m - (intOf v8).toNat)
  case atStart => exact ⟨0, Nat.zero_le _, rfl, be_refl _, fun j _ hj => absurd hj (Nat.not_lt_zero _)⟩
  case round =>
    obtain ⟨i, hi, rfl, hB, hno⟩ := hrel
    have HB := hide hB
    have NO := hide hno
    clear hno
    by_cases hlt : i < m
    · have p1' : ((i : Int) < (m : Int)) = True := eq_true (by omega)
      have p2' : (i : Int) < (m : Int) := by omega
      have p0 : (0 : Int) ≤ (i : Int) := by omega
      obtain ⟨e, he⟩ : ∃ e, evs[i]? = some e := ⟨_, List.getElem?_eq_getElem (by have := HM.out; omega)⟩
      obtain ⟨b, rfl, hbl, hc⟩ := HR.out i e he
      have HE := hide he
      have HCE := hide (HC.out wr hB e)
      obtain ⟨t', n', k', win⟩ := e
      have s0 : wr.cell? ⟨b, i * 12, none⟩ = some (.int .i64 t') := (hB.cell (p := ⟨b, i * 12 + 0, none⟩) hbl).trans (hc 0 (by omega) _ rfl)
      have s1 : wr.cell? ⟨b, i * 12 + 1, none⟩ = some (.int .i64 n') := (hB.cell (p := ⟨b, i * 12 + 1, none⟩) hbl).trans (hc 1 (by omega) _ rfl)
      have s2 : wr.cell? ⟨b, i * 12 + 2, none⟩ = some (.int .i64 k') := (hB.cell (p := ⟨b, i * 12 + 2, none⟩) hbl).trans (hc 2 (by omega) _ rfl)
      have s3 : wr.cell? ⟨b, i * 12 + 3, none⟩ = some (.int .i64 0) := (hB.cell (p := ⟨b, i * 12 + 3, none⟩) hbl).trans (hc 3 (by omega) _ rfl)
      have s4 : wr.cell? ⟨b, i * 12 + 4, none⟩ = some (.int .i64 win) := (hB.cell (p := ⟨b, i * 12 + 4, none⟩) hbl).trans (hc 4 (by omega) _ rfl)
      have s5 : wr.cell? ⟨b, i * 12 + 5, none⟩ = some (.int .i64 0) := (hB.cell (p := ⟨b, i * 12 + 5, none⟩) hbl).trans (hc 5 (by omega) _ rfl)
      have s6 : wr.cell? ⟨b, i * 12 + 6, none⟩ = some (.int .i64 0) := (hB.cell (p := ⟨b, i * 12 + 6, none⟩) hbl).trans (hc 6 (by omega) _ rfl)
      have s7 : wr.cell? ⟨b, i * 12 + 7, none⟩ = some (.int .i64 0) := (hB.cell (p := ⟨b, i * 12 + 7, none⟩) hbl).trans (hc 7 (by omega) _ rfl)
      have s8 : wr.cell? ⟨b, i * 12 + 8, none⟩ = some (.slice none 0 0) := (hB.cell (p := ⟨b, i * 12 + 8, none⟩) hbl).trans (hc 8 (by omega) _ rfl)
      have s9 : wr.cell? ⟨b, i * 12 + 9, none⟩ = some (.int .i64 0) := (hB.cell (p := ⟨b, i * 12 + 9, none⟩) hbl).trans (hc 9 (by omega) _ rfl)
      have s10 : wr.cell? ⟨b, i * 12 + 10, none⟩ = some (.int .i64 0) := (hB.cell (p := ⟨b, i * 12 + 10, none⟩) hbl).trans (hc 10 (by omega) _ rfl)
      have s11 : wr.cell? ⟨b, i * 12 + 11, none⟩ = some (.bool false) := (hB.cell (p := ⟨b, i * 12 + 11, none⟩) hbl).trans (hc 11 (by omega) _ rfl)
      have hw : wrap64 ((i : Int) + 1) = (i : Int) + 1 := by unfold wrap64; omega
      clear hB hc he hbl
      dsimp only [evC] at HCE
      cases hh : hit t n k (t', n', k', win) with
      | true =>
        rw [hh] at HCE
        have HF := hide (firstI_at HE.out hh NO.out)
        clear hh
        go_wp2_with (go_at_call 20; (with_reducible refine HCE.out.mono ?_); rintro e' W2 ⟨rfl, hb⟩; have HB2 := hide (be_call hb HB.out.size HB.out); clear hb)
        go_ret
        exact ⟨congrArg (fun x => Ending.returned (Value.int .i64 x)) HF.out.symm, HB2.out⟩
      | false =>
        rw [hh] at HCE
        have NO2 : Hid (∀ (j : Nat) (e : Ev), j < i + 1 → evs[j]? = some e → hit t n k e = false) := fun j e hj he => by
          by_cases hji : j = i
          · subst hji; rw [HE.out] at he; cases he; exact hh
          · exact NO.out j e (by omega) he
        clear hh
        go_wp2_with (go_at_call 20; (with_reducible refine HCE.out.mono ?_); rintro e' W2 ⟨rfl, hb⟩; have HB2 := hide (be_call hb HB.out.size HB.out); clear hb)
        refine ⟨⟨i + 1, by omega, by simp, HB2.out, NO2.out⟩, ?_⟩
        simp only [intOf]; omega
    · have p1' : ((i : Int) < (m : Int)) = False := eq_false (by omega)
      have HF := hide (firstI_no (evs := evs) (t := t) (n := n) (k := k) (fun j e he => NO.out j e (by have := (List.getElem?_eq_some_iff.1 he).1; have := HM.out; omega) he))
      clear hB
      go_wp2
      go_ret
      exact ⟨congrArg (fun x => Ending.returned (Value.int .i64 x)) HF.out.symm, HB.out⟩
set_option maxHeartbeats 8000000 in
set_option maxRecDepth 100000 in
theorem first_calls (t n k : Int) (w W : World) (g : Nat) (lb : Option Nat) (cap : Nat) (ob : Option Nat) (oc B m : Nat) (evs : List Ev) (od : List (Int × Int)) (D : Dw) (h : Hi w W g lb cap ob oc B m evs od D) (hl : evs.length ≤ 1000000) :
    Calls Try.prog 17 #[.pointer (some ⟨g, 0, none⟩), .int .i64 t, .int .i64 n, .int .i64 k] W fun e W' => e = .returned (.int .i64 (firstI evs t n k)) ∧ Below W.heap.size W W' := by
  obtain ⟨c0, _, _⟩ := h.c
  have hgs := bs_lt h.obj
  have hev := EvR.of h.ev
  unfold sl at c0
  generalize (lb.map fun b => (⟨b, 0, none⟩ : Addr)) = oa at *
  have HR := hide hev
  clear h hev
  generalize hn : evs.length = m at *
  have HM := hide hn
  clear hn
  go_enter Try.func17, Try.ntmps17
  go_upto_region 1 with fail
  refine wp_letter (fun M => Below W.heap.size W M ∧ M.heap[W.heap.size]? = some (.cells #[.int .i64 t] 3 (0, 0)) ∧ M.heap[W.heap.size + 1]? = some (.cells #[.int .i64 n] 3 (0, 0)) ∧ M.heap[W.heap.size + 1 + 1]? = some (.cells #[.int .i64 k] 3 (0, 0))) ⟨be_alloc (be_alloc (be_alloc (be_refl _) (Nat.le_refl _)) (by simp)) (by simp; omega), bs_alloc (bs_alloc (bs_new rfl)), bs_alloc (bs_new (by simp)), bs_new (by simp)⟩ ?_
  rintro M ⟨hB, h1, h2, h3⟩
  have HB := hide hB
  have c0' : M.cell? ⟨g, 0, none⟩ = _ := (hB.cell (p := ⟨g, 0, none⟩) hgs).trans c0
  have HI := hide (index_calls t n k M oa cap evs _ _ _ (HR.out.below hB) ((bs_cell h1 0).trans rfl) ((bs_cell h2 0).trans rfl) ((bs_cell h3 0).trans rfl) (by have := HM.out; omega))
  rw [HM.out] at HI
  clear hB h1 h2 h3 c0
  go_wp2_with (go_at_call 19; (with_reducible refine HI.out.mono ?_); rintro e W2 ⟨rfl, hb⟩; have HB2 := hide (be_call hb HB.out.size HB.out); clear hb)
  go_ret
  exact ⟨rfl, HB2.out⟩
/-- One was replied ahead of another one's call. -/
def befB (evs : List Ev) (t n u k : Int) : Bool := decide (0 ≤ firstI evs t n 2) && decide (0 ≤ firstI evs u k 1) && decide (firstI evs t n 2 < firstI evs u k 1)
theorem before_calls (t n u k : Int) (w W : World) (g : Nat) (lb : Option Nat) (cap : Nat) (ob : Option Nat) (oc B m : Nat) (evs : List Ev) (od : List (Int × Int)) (D : Dw) (h : Hi w W g lb cap ob oc B m evs od D) (hl : evs.length ≤ 1000000) :
    Calls Try.prog 13 #[.pointer (some ⟨g, 0, none⟩), .int .i64 t, .int .i64 n, .int .i64 u, .int .i64 k] W fun e W' => e = .returned (.bool (befB evs t n u k)) ∧ Below W.heap.size W W' := by
  have H1 := hide (first_calls t n 2 w W g lb cap ob oc B m evs od D h hl)
  have H2 := hide (fun W' (hb : Below W.heap.size W W') => first_calls u k 1 w W' g lb cap ob oc B m evs od D (h.then_ hb) hl)
  clear h
  unfold befB
  generalize firstI evs t n 2 = a at *
  generalize firstI evs u k 1 = b at *
  go_enter Try.func13, Try.ntmps13
  go_wp2_with (first
    | (go_at_call 17; (with_reducible refine H1.out.mono ?_); rintro e W2 ⟨rfl, hb⟩; have HB := hide hb; clear hb)
    | (go_at_call 17; (with_reducible refine (H2.out _ HB.out).mono ?_); rintro e W3 ⟨rfl, hb⟩; have HB3 := hide (be_call hb HB.out.size HB.out); clear hb))
  all_goals go_ret
  all_goals (refine ⟨?_, HB3.out⟩; first | (simp [*]; done) | (simp [*]; omega))
end Go.Proofs.Ytkdfdcppeolbjaa.HistFirst


