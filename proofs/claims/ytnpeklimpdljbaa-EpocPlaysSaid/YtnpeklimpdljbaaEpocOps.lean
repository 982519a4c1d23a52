/- Epochs: what New, Pin, Unpin and Can do: contracts, for every state. -/
import Derived.Test.YtnpeklimpdljbaaEpocBase
namespace Go.Proofs.Ytnpeklimpdljbaa.EpocOps
open Go.RowKit Go.Proofs.YtnpeklimpdljbaaKit Go.Proofs.YtnpeklimpdljbaaW.PrintWords Go.Proofs.YtnpeklimpdljbaaW.PrintLast Go.Proofs.Ytnpeklimpdljbaa.EpocBase
attribute [local go_sem] cell_alloc_some cell_alloc2_some cell_alloc3_some cell_alloc4_some
set_option linter.unusedVariables false
set_option linter.unusedSimpArgs false
theorem intInfo : (Try.prog.info? 3).map (fun i => (i.zero, i.size, i.bytes)) = some (some (.int .i64 0), 1, 8) := by kernel_rfl
theorem pairInfo : (Try.prog.info? 49).map (fun i => (i.zero, i.size, i.bytes)) = some (some (.agg #[.int .i64 0, .int .i64 0]), 2, 16) := by kernel_rfl
theorem made (n : Nat) : madeCells #[.int .i64 0] (n * 1) = ((List.replicate n (0 : Int)).map (.int .i64)).toArray := by
  apply Array.ext_getElem?
  intro k
  unfold madeCells
  have ht : ((List.replicate n (0 : Int)).map (Value.int .i64)).toArray[k]? = ((List.replicate n (0 : Int)).map (Value.int .i64))[k]? := List.getElem?_toArray
  rw [Array.getElem?_map, ht, List.getElem?_map, List.getElem?_replicate, Nat.mul_one]
  by_cases hk : k < n
  · rw [Array.getElem?_range, if_pos hk, if_pos hk]
    have : k % 1 = 0 := Nat.mod_one k
    simp [this]
  · rw [Array.getElem?_range, if_neg hk, if_neg hk]; rfl
set_option maxHeartbeats 8000000 in
theorem new_calls (t : Int) (n : Nat) (w : World) (hn : n ≤ 100) (ht : t = (n : Int) ∨ t < 0 ∧ n = 0) :
    Calls Try.prog 7 #[.int .i64 t] w fun e W' => ∃ g pb, e = .returned (.pointer (some ⟨g, 0, none⟩)) ∧ Ep w W' g pb none 0 0 (List.replicate n 0) [] := by
  obtain ⟨i, hi, hz, hs, hb⟩ := info_parts intInfo
  have hmk : ∀ w : World, (Instr.makeSlice 22 (.int .i64 (n : Int)) (.int .i64 (n : Int))).run Try.prog w = .ok (.slice (some ⟨w.heap.size, 0, none⟩) n n) (w.alloc (.cells ((List.replicate n (0 : Int)).map (.int .i64)).toArray 3)) := fun w => by
    have h : (i.bytes : Int) * ((n : Nat) : Int) ≤ 281474976710656 := by rw [hb]; omega
    have hr := run_make (P := Try.prog) w 22 3 i _ Try.underlying22 hi hz .i64 .i64 n n (by omega) (by omega) h (by omega)
    simp only [Int.toNat_natCast, hs] at hr
    rw [hr]
    show Result.ok _ (w.alloc (.cells (madeCells #[.int .i64 0] (n * 1)) _)) = _
    rw [made]
  have hlen : (List.replicate n (0 : Int)).length = n := List.length_replicate
  generalize hbs : List.replicate n (0 : Int) = bs at *
  clear hbs hi hz hs hb
  have HL := hide hlen
  clear hlen
  rcases ht with rfl | ⟨ht, rfl⟩
  · have p0 : ((n : Int) < 0) = False := eq_false (by omega)
    have p1 : ((100 : Int) < (n : Int)) = False := eq_false (by omega)
    go_enter Try.func7, Try.ntmps7
    go_wp2
    go_ret
    refine ⟨w.heap.size + 1, w.heap.size, rfl, ?_, bs_alloc (bs_new rfl), Own.nil _ _ _ _, by omega, by omega, be_alloc (be_alloc (be_refl _) (Nat.le_refl _)) (by simp)⟩
    rw [HL.out]
    exact bs_new (by simp)
  · have p0 : (t < 0) = True := eq_true ht
    have hmk0 : ∀ w : World, (Instr.makeSlice 22 (.int .i64 0) (.int .i64 0)).run Try.prog w = .ok (.slice (some ⟨w.heap.size, 0, none⟩) 0 0) (w.alloc (.cells (bs.map (.int .i64)).toArray 3)) := hmk
    clear hmk
    go_enter Try.func7, Try.ntmps7
    go_wp2
    go_ret
    refine ⟨w.heap.size + 1, w.heap.size, rfl, ?_, bs_alloc (bs_new rfl), Own.nil _ _ _ _, by omega, by omega, be_alloc (be_alloc (be_refl _) (Nat.le_refl _)) (by simp)⟩
    rw [HL.out]
    exact bs_new (by simp)
theorem Fr.pin {g pb : Nat} {lb : Option Nat} (W : World) (i : Nat) (v : Value) : Fr g pb W lb (W.setCell ⟨pb, i, none⟩ v) lb :=
  ⟨fun k _ _ h2 _ => Below.heap_setCell W _ _ k h2, fun k _ h => h, Nat.le_of_eq (World.size_setCell W _ _).symm⟩
theorem Fr.drew {g pb : Nat} {lb lb' : Option Nat} {W W' : World} (h : Fr g pb W lb W' lb') : Fr g pb W lb W'.drew lb' := ⟨h.block, h.own, h.size⟩
theorem pin_out (i : Int) (w W : World) (g pb : Nat) (lb : Option Nat) (cap : Nat) (now : Int) (ps : List Int) (xs : List (Int × Int)) (h : Ep w W g pb lb cap now ps xs) (hp : ¬ (0 ≤ i) ∨ (ps.length : Int) ≤ i) :
    Calls Try.prog 14 #[.pointer (some ⟨g, 0, none⟩), .int .i64 i] W fun e W' => e = .returned (.bool false) ∧ W' = W := by
  have HN := hide (pinned_no i w W g pb lb cap now ps xs h (by
    rcases hp with h | h
    · exact .inl h
    · by_cases h0 : 0 ≤ i
      · exact .inr (by rw [List.getElem?_eq_none (by omega)]; rfl)
      · exact .inl h0))
  have H := has_calls i w W g pb lb cap now ps xs h
  have hd : (decide (0 ≤ i) && decide (i < ps.length)) = false := by simp; omega
  rw [hd] at H
  have H := hide H
  clear hd h hp
  go_enter Try.func14, Try.ntmps14
  go_wp2_with (first
    | (go_at_call 15; with_reducible refine HN.out.mono ?_; rintro e v ⟨rfl, hv⟩; subst v)
    | (go_at_call 23; with_reducible refine H.out.mono ?_; rintro e v ⟨rfl, hv⟩; subst v))
  go_ret
  exact ⟨rfl, rfl⟩
theorem pin_had (i p : Int) (w W : World) (g pb : Nat) (lb : Option Nat) (cap : Nat) (now : Int) (ps : List Int) (xs : List (Int × Int)) (h : Ep w W g pb lb cap now ps xs) (h0 : 0 ≤ i) (hp : ps[i.toNat]? = some p) (hp1 : 0 < p) (hp2 : p ≤ 1000000) :
    Calls Try.prog 14 #[.pointer (some ⟨g, 0, none⟩), .int .i64 i] W fun e W' => e = .returned (.bool false) ∧ W' = W := by
  have HN := hide (pinned_yes i p w W g pb lb cap now ps xs h h0 hp hp1 hp2)
  clear h hp
  go_enter Try.func14, Try.ntmps14
  go_wp2_with (go_at_call 15; with_reducible refine HN.out.mono ?_; rintro e v ⟨rfl, hv⟩; subst v)
  go_ret
  exact ⟨rfl, rfl⟩
set_option maxHeartbeats 8000000 in
set_option maxRecDepth 100000 in
theorem pin_yes (i : Int) (w W : World) (g pb : Nat) (lb : Option Nat) (cap : Nat) (now : Int) (ps : List Int) (xs : List (Int × Int)) (h : Ep w W g pb lb cap now ps xs) (h0 : 0 ≤ i) (hp : ps[i.toNat]? = some 0) (hn : 0 ≤ now ∧ now ≤ 1000000) :
    Calls Try.prog 14 #[.pointer (some ⟨g, 0, none⟩), .int .i64 i] W fun e W' => e = .returned (.bool true) ∧ Ep w W' g pb lb cap now (ps.set i.toNat (now + 1)) xs ∧ Fr g pb W lb W' lb := by
  have HN := hide (pinned_no i w W g pb lb cap now ps xs h (.inr (by rw [hp]; rfl)))
  have H := has_calls i w W g pb lb cap now ps xs h
  have hl : i.toNat < ps.length := (List.getElem?_eq_some_iff.1 hp).1
  have hd : (decide (0 ≤ i) && decide (i < ps.length)) = true := by simp; omega
  rw [hd] at H
  have H := hide H
  have HP := hide h
  obtain ⟨c0, c1, c2⟩ := h.c
  have x0 := h.pin i.toNat 0 hp
  have fz := fun j => bs_frozen h.pins j
  have h1 : i < (ps.length : Int) := by omega
  have hw2 : IntKind.i64.wrap (now + 1) = now + 1 := by rw [IntKind.wrap_i64]; omega
  clear hd h hp
  go_enter Try.func14, Try.ntmps14
  go_upto_region 4 with (first
    | (go_at_call 15; with_reducible refine HN.out.mono ?_; rintro e v ⟨rfl, hv⟩; subst v)
    | (go_at_call 23; with_reducible refine H.out.mono ?_; rintro e v ⟨rfl, hv⟩; subst v))
  go_still_tail 11, (by kernel_rfl)
  change wpList _ _ _ _ _ W.drew
  go_wp2
  go_ret
  exact ⟨rfl, HP.out.drew.set_pin i.toNat (now + 1), Fr.drew (Fr.pin W i.toNat _)⟩
theorem unpin_no (i : Int) (w W : World) (g pb : Nat) (lb : Option Nat) (cap : Nat) (now : Int) (ps : List Int) (xs : List (Int × Int)) (h : Ep w W g pb lb cap now ps xs) (hp : ¬ (0 ≤ i) ∨ (ps[i.toNat]?).getD 0 = 0) :
    Calls Try.prog 18 #[.pointer (some ⟨g, 0, none⟩), .int .i64 i] W fun e W' => e = .returned (.bool false) ∧ W' = W := by
  have HN := hide (pinned_no i w W g pb lb cap now ps xs h hp)
  clear h hp
  go_enter Try.func18, Try.ntmps18
  go_wp2_with (go_at_call 15; with_reducible refine HN.out.mono ?_; rintro e v ⟨rfl, hv⟩; subst v)
  go_ret
  exact ⟨rfl, rfl⟩
theorem unpin_yes (i p : Int) (w W : World) (g pb : Nat) (lb : Option Nat) (cap : Nat) (now : Int) (ps : List Int) (xs : List (Int × Int)) (h : Ep w W g pb lb cap now ps xs) (h0 : 0 ≤ i) (hp : ps[i.toNat]? = some p) (hp1 : 0 < p) (hp2 : p ≤ 1000000) :
    Calls Try.prog 18 #[.pointer (some ⟨g, 0, none⟩), .int .i64 i] W fun e W' => e = .returned (.bool true) ∧ Ep w W' g pb lb cap now (ps.set i.toNat 0) xs ∧ Fr g pb W lb W' lb := by
  have HN := hide (pinned_yes i p w W g pb lb cap now ps xs h h0 hp hp1 hp2)
  have hl : i.toNat < ps.length := (List.getElem?_eq_some_iff.1 hp).1
  have HP := hide h
  obtain ⟨c0, c1, c2⟩ := h.c
  have x0 := h.pin i.toNat p hp
  have fz := fun j => bs_frozen h.pins j
  have h1 : i < (ps.length : Int) := by omega
  clear h hp
  go_enter Try.func18, Try.ntmps18
  go_wp2_with (go_at_call 15; with_reducible refine HN.out.mono ?_; rintro e v ⟨rfl, hv⟩; subst v)
  go_ret
  exact ⟨rfl, HP.out.set_pin i.toNat 0, Fr.pin W i.toNat _⟩
def okP (now p : Int) : Bool := !(decide (0 < p) && decide (p - 1 < now))
def canB (now : Int) (ps : List Int) : Bool := ps.all (okP now)
theorem can_no {now p : Int} {ps : List Int} {i : Nat} (h : ps[i]? = some p) (ho : okP now p = false) : canB now ps = false := by
  unfold canB
  rw [List.all_eq_false]
  exact ⟨p, List.mem_of_getElem? h, by simp [ho]⟩
theorem can_yes {now : Int} {ps : List Int} (h : ∀ (j : Nat) (p : Int), ps[j]? = some p → okP now p = true) : canB now ps = true := by
  unfold canB
  rw [List.all_eq_true]
  intro p hp
  obtain ⟨j, hj⟩ := List.getElem?_of_mem hp
  exact h j p hj
set_option maxHeartbeats 8000000 in
set_option maxRecDepth 100000 in
theorem can_calls (w W : World) (g pb : Nat) (lb : Option Nat) (cap : Nat) (now : Int) (ps : List Int) (xs : List (Int × Int)) (h : Ep w W g pb lb cap now ps xs) (hps : ∀ p ∈ ps, 0 ≤ p ∧ p ≤ 1000000) (hpl : ps.length ≤ 1000) :
    Calls Try.prog 22 #[.pointer (some ⟨g, 0, none⟩)] W fun e W' => e = .returned (.bool (canB now ps)) ∧ W' = W := by
  have HP := hide h
  have HPS := hide hps
  obtain ⟨c0, c1, c2⟩ := h.c
  obtain ⟨n, hn⟩ : ∃ n, n = ps.length := ⟨_, rfl⟩
  rw [← hn] at c1 hpl
  have HNN := hide hn
  clear h hps hn
  go_enter Try.func22, Try.ntmps22
  go_wp2
  go_loopw [10] (fun v10 wr => ∃ i : Nat, i ≤ n ∧ v10 = .int .i64 (i : Int) ∧ wr = W ∧ (∀ j p, j < i → ps[j]? = some p → okP now p = true)) (fun v10 _ => n - (intOf v10).toNat)
  case atStart => exact ⟨0, Nat.zero_le _, rfl, rfl, fun j p hj => absurd hj (Nat.not_lt_zero _)⟩
  case round =>
    obtain ⟨i, hi, rfl, rfl, hok⟩ := hrel
    have HOK := hide hok
    clear hok
    by_cases hlt : i < n
    · have p1 : ((i : Int) < (n : Int)) = True := eq_true (by omega)
      have p0 : (0 : Int) ≤ (i : Int) := by omega
      obtain ⟨p, hp⟩ : ∃ p, ps[i]? = some p := ⟨_, List.getElem?_eq_getElem (by have := HNN.out; omega)⟩
      have hpb := HPS.out p (List.mem_of_getElem? hp)
      have x0 := HP.out.pin i p hp
      have HQ := hide hp
      clear hp
      have hw : wrap64 (p - 1) = p - 1 := by unfold wrap64; omega
      have next : okP now p = true → ∀ j q, j < i + 1 → ps[j]? = some q → okP now q = true := fun ho j q hj hq => by
        by_cases hji : j = i
        · subst hji; rw [HQ.out] at hq; cases hq; exact ho
        · exact HOK.out j q (by omega) hq
      have NEXT := hide next
      clear next
      by_cases h1 : 0 < p
      · have q1 : (0 < p) = True := eq_true h1
        by_cases h2 : p - 1 < now
        · have q2 : (p - 1 < now) = True := eq_true h2
          have hc := can_no HQ.out (show okP now p = false by simp [okP, h1, h2])
          have HC := hide hc
          clear hc
          go_wp2
          go_ret
          exact ⟨congrArg (fun b => Ending.returned (Value.bool b)) HC.out.symm, rfl⟩
        · have q2 : (p - 1 < now) = False := eq_false h2
          have NX := hide (NEXT.out (by simp [okP, h2]))
          go_wp2
          refine ⟨⟨i + 1, by omega, by simp, by trivial, NX.out⟩, ?_⟩
          simp only [intOf]; omega
      · have q1 : (0 < p) = False := eq_false h1
        have NX := hide (NEXT.out (by simp [okP, h1]))
        go_wp2
        refine ⟨⟨i + 1, by omega, by simp, by trivial, NX.out⟩, ?_⟩
        simp only [intOf]; omega
    · have p1 : ((i : Int) < (n : Int)) = False := eq_false (by omega)
      have hc : canB now ps = true := can_yes fun j p hj => HOK.out j p (by have := (List.getElem?_eq_some_iff.1 hj).1; have := HNN.out; omega) hj
      have HC := hide hc
      clear hc
      go_wp2
      go_ret
      exact ⟨congrArg (fun b => Ending.returned (Value.bool b)) HC.out.symm, rfl⟩
end Go.Proofs.Ytnpeklimpdljbaa.EpocOps

