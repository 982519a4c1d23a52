/- The law's own word: was an op replied ahead of another one's call: a contract. -/
import Derived.Test.YtkdfdcppeolbjaaHistFirst
namespace Go.Proofs.Ytkdfdcppeolbjaa.HistBef
open Go Go.RowKit Go.Maps Go.Proofs.YtkdfdcppeolbjaaKit Go.Proofs.Ytkdfdcppeolbjaa.Mem Go.Proofs.Ytkdfdcppeolbjaa.HistBase Go.Proofs.Ytkdfdcppeolbjaa.HistStill Go.Proofs.Ytkdfdcppeolbjaa.HistOps Go.Proofs.Ytkdfdcppeolbjaa.HistRead Go.Proofs.Ytkdfdcppeolbjaa.HistFirst
set_option linter.unusedVariables false
set_option linter.unusedSimpArgs false
/-- Where an event of that kind comes first from a place on; below 0: nowhere. -/
def fromI (evs : List Ev) (t n k : Int) (j : Nat) : Int := match (evs.drop j).findIdx? (hit t n k) with
  | some i => ((i + j : Nat) : Int)
  | none => -1
theorem from_zero (evs : List Ev) (t n k : Int) : fromI evs t n k 0 = firstI evs t n k := by
  unfold fromI firstI
  rw [List.drop_zero]
  cases evs.findIdx? (hit t n k) <;> rfl
theorem from_step {evs : List Ev} {t n k : Int} {j : Nat} {e : Ev} (h : evs[j]? = some e) : fromI evs t n k j = if hit t n k e then (j : Int) else fromI evs t n k (j + 1) := by
  have hl := (List.getElem?_eq_some_iff.1 h).1
  have he := (List.getElem?_eq_some_iff.1 h).2
  unfold fromI
  rw [List.drop_eq_getElem_cons hl, he, List.findIdx?_cons]
  cases hit t n k e with
  | true => simp
  | false =>
    simp only [Bool.false_eq_true, if_false]
    cases (evs.drop (j + 1)).findIdx? (hit t n k) with
    | none => rfl
    | some i => simp; omega
theorem from_end {evs : List Ev} {t n k : Int} {j : Nat} (h : evs.length ≤ j) : fromI evs t n k j = -1 := by
  unfold fromI
  rw [List.drop_eq_nil_of_le h]; rfl
set_option maxHeartbeats 16000000 in
set_option maxRecDepth 100000 in
theorem lbefore_calls (t n u m : Int) (W : World) (oa : Option Addr) (cap : Nat) (evs : List Ev) (hr : EvR W oa evs) (hl : evs.length ≤ 1000000) :
    Calls Try.prog 14 #[.slice oa evs.length cap, .int .i64 t, .int .i64 n, .int .i64 u, .int .i64 m] W fun e W' => e = .returned (.bool (befB evs t n u m)) ∧ W' = W := by
  have HR := hide hr
  clear hr
  obtain ⟨q, hq⟩ : ∃ q, evs.length = q := ⟨_, rfl⟩
  rw [hq] at hl ⊢
  have HQ := hide hq
  have hw0 : wrap64 ((q : Int) - 1) = (q : Int) - 1 := by unfold wrap64; omega
  clear hq
  unfold befB
  obtain ⟨x, hx⟩ : ∃ x, firstI evs t n 2 = x := ⟨_, rfl⟩
  obtain ⟨y, hy⟩ : ∃ y, firstI evs u m 1 = y := ⟨_, rfl⟩
  rw [hx, hy]
  have HX := hide hx
  have HY := hide hy
  clear hx hy
  go_enter Try.func14, Try.ntmps14
  go_wp2
  go_loopw [11, 12, 13] (fun v11 v12 v13 wr => ∃ j : Nat, j ≤ q ∧ v11 = .int .i64 (fromI evs t n 2 j) ∧ v12 = .int .i64 (fromI evs u m 1 j) ∧ v13 = .int .i64 ((j : Int) - 1) ∧ wr = W) (fun _ _ v13 _ => (intOf v13 + 1).toNat)
  case atStart => exact ⟨q, Nat.le_refl _, by rw [from_end (by rw [HQ.out]; exact Nat.le_refl _)], by rw [from_end (by rw [HQ.out]; exact Nat.le_refl _)], rfl, rfl⟩
  case round =>
    obtain ⟨j0, hj, rfl, rfl, rfl, rfl⟩ := hrel
    cases j0 with
    | zero =>
      rw [(from_zero evs t n 2).trans HX.out, (from_zero evs u m 1).trans HY.out]
      clear hj
      go_wp2
      all_goals go_ret
      all_goals (refine ⟨?_, rfl⟩; first | (simp [*]; done) | (simp [*]; omega))
    | succ j =>
      obtain ⟨e, he⟩ : ∃ e, evs[j]? = some e := ⟨_, List.getElem?_eq_getElem (by have := HQ.out; omega)⟩
      have S1 := hide (from_step (t := t) (n := n) (k := 2) he)
      have S2 := hide (from_step (t := u) (n := m) (k := 1) he)
      obtain ⟨bb, rfl, _, hc⟩ := HR.out j e he
      obtain ⟨a, b, c, d⟩ := e
      have s0 : wr.cell? ⟨bb, j * 12, none⟩ = some (.int .i64 a) := hc 0 (by omega) _ rfl
      have s1 : wr.cell? ⟨bb, j * 12 + 1, none⟩ = some (.int .i64 b) := hc 1 (by omega) _ rfl
      have s2 : wr.cell? ⟨bb, j * 12 + 2, none⟩ = some (.int .i64 c) := hc 2 (by omega) _ rfl
      have hcast : (((j + 1 : Nat) : Int) - 1) = (j : Int) := by omega
      rw [hcast]
      have p0 : (0 : Int) ≤ (j : Int) := by omega
      have p0' : ((0 : Int) ≤ (j : Int)) = True := eq_true p0
      have p1 : (j : Int) < (q : Int) := by omega
      have hw : wrap64 ((j : Int) - 1) = (j : Int) - 1 := by unfold wrap64; omega
      have HJ := hide hj
      have HCA := hide hcast
      clear hc he hj hcast
      obtain ⟨F1, hF1⟩ : ∃ F, F = fromI evs t n 2 (j + 1) := ⟨_, rfl⟩
      obtain ⟨F2, hF2⟩ : ∃ F, F = fromI evs u m 1 (j + 1) := ⟨_, rfl⟩
      rw [← hF1] at S1 ⊢
      rw [← hF2] at S2 ⊢
      clear hF1 hF2
      by_cases hx1 : a = t
      · have kx1 : (a = t) = True := eq_true hx1; have lx1 : (a == t) = true := (by simp [hx1])
        by_cases hx2 : b = n
        · have kx2 : (b = n) = True := eq_true hx2; have lx2 : (b == n) = true := (by simp [hx2])
          by_cases hx3 : c = 2
          · have kx3 : (c = 2) = True := eq_true hx3; have lx3 : (c == 2) = true := (by simp [hx3])
            have E1 := hide (show fromI evs t n 2 j = (j : Int) from S1.out.trans (by simp [Go.Proofs.Ytkdfdcppeolbjaa.HistFirst.hit, hx1, hx2, hx3]))
            clear hx1 hx2 hx3
            by_cases hy1 : a = u
            · have ky1 : (a = u) = True := eq_true hy1; have ly1 : (a == u) = true := (by simp [hy1])
              by_cases hy2 : b = m
              · have ky2 : (b = m) = True := eq_true hy2; have ly2 : (b == m) = true := (by simp [hy2])
                by_cases hy3 : c = 1
                · have ky3 : (c = 1) = True := eq_true hy3; have ly3 : (c == 1) = true := (by simp [hy3])
                  have E2 := hide (show fromI evs u m 1 j = (j : Int) from S2.out.trans (by simp [Go.Proofs.Ytkdfdcppeolbjaa.HistFirst.hit, hy1, hy2, hy3]))
                  clear hy1 hy2 hy3
                  go_wp2
                  refine ⟨⟨j, by have := HJ.out; omega, by rw [E1.out], by rw [E2.out], rfl, (by first | rfl | trivial)⟩, ?_⟩
                  simp only [intOf]; omega
                · have ky3 : (c = 1) = False := eq_false hy3; have ly3 : (c == 1) = false := (by simp [hy3])
                  have E2 := hide (show fromI evs u m 1 j = F2 from S2.out.trans (by simp [Go.Proofs.Ytkdfdcppeolbjaa.HistFirst.hit, hy1, hy2, hy3]))
                  clear hy1 hy2 hy3
                  go_wp2
                  refine ⟨⟨j, by have := HJ.out; omega, by rw [E1.out], by rw [E2.out], rfl, (by first | rfl | trivial)⟩, ?_⟩
                  simp only [intOf]; omega
              · have ky2 : (b = m) = False := eq_false hy2; have ly2 : (b == m) = false := (by simp [hy2])
                have E2 := hide (show fromI evs u m 1 j = F2 from S2.out.trans (by simp [Go.Proofs.Ytkdfdcppeolbjaa.HistFirst.hit, hy1, hy2]))
                clear hy1 hy2
                go_wp2
                refine ⟨⟨j, by have := HJ.out; omega, by rw [E1.out], by rw [E2.out], rfl, (by first | rfl | trivial)⟩, ?_⟩
                simp only [intOf]; omega
            · have ky1 : (a = u) = False := eq_false hy1; have ly1 : (a == u) = false := (by simp [hy1])
              have E2 := hide (show fromI evs u m 1 j = F2 from S2.out.trans (by simp [Go.Proofs.Ytkdfdcppeolbjaa.HistFirst.hit, hy1]))
              clear hy1
              go_wp2
              refine ⟨⟨j, by have := HJ.out; omega, by rw [E1.out], by rw [E2.out], rfl, (by first | rfl | trivial)⟩, ?_⟩
              simp only [intOf]; omega
          · have kx3 : (c = 2) = False := eq_false hx3; have lx3 : (c == 2) = false := (by simp [hx3])
            have E1 := hide (show fromI evs t n 2 j = F1 from S1.out.trans (by simp [Go.Proofs.Ytkdfdcppeolbjaa.HistFirst.hit, hx1, hx2, hx3]))
            clear hx1 hx2 hx3
            by_cases hy1 : a = u
            · have ky1 : (a = u) = True := eq_true hy1; have ly1 : (a == u) = true := (by simp [hy1])
              by_cases hy2 : b = m
              · have ky2 : (b = m) = True := eq_true hy2; have ly2 : (b == m) = true := (by simp [hy2])
                by_cases hy3 : c = 1
                · have ky3 : (c = 1) = True := eq_true hy3; have ly3 : (c == 1) = true := (by simp [hy3])
                  have E2 := hide (show fromI evs u m 1 j = (j : Int) from S2.out.trans (by simp [Go.Proofs.Ytkdfdcppeolbjaa.HistFirst.hit, hy1, hy2, hy3]))
                  clear hy1 hy2 hy3
                  go_wp2
                  refine ⟨⟨j, by have := HJ.out; omega, by rw [E1.out], by rw [E2.out], rfl, (by first | rfl | trivial)⟩, ?_⟩
                  simp only [intOf]; omega
                · have ky3 : (c = 1) = False := eq_false hy3; have ly3 : (c == 1) = false := (by simp [hy3])
                  have E2 := hide (show fromI evs u m 1 j = F2 from S2.out.trans (by simp [Go.Proofs.Ytkdfdcppeolbjaa.HistFirst.hit, hy1, hy2, hy3]))
                  clear hy1 hy2 hy3
                  go_wp2
                  refine ⟨⟨j, by have := HJ.out; omega, by rw [E1.out], by rw [E2.out], rfl, (by first | rfl | trivial)⟩, ?_⟩
                  simp only [intOf]; omega
              · have ky2 : (b = m) = False := eq_false hy2; have ly2 : (b == m) = false := (by simp [hy2])
                have E2 := hide (show fromI evs u m 1 j = F2 from S2.out.trans (by simp [Go.Proofs.Ytkdfdcppeolbjaa.HistFirst.hit, hy1, hy2]))
                clear hy1 hy2
                go_wp2
                refine ⟨⟨j, by have := HJ.out; omega, by rw [E1.out], by rw [E2.out], rfl, (by first | rfl | trivial)⟩, ?_⟩
                simp only [intOf]; omega
            · have ky1 : (a = u) = False := eq_false hy1; have ly1 : (a == u) = false := (by simp [hy1])
              have E2 := hide (show fromI evs u m 1 j = F2 from S2.out.trans (by simp [Go.Proofs.Ytkdfdcppeolbjaa.HistFirst.hit, hy1]))
              clear hy1
              go_wp2
              refine ⟨⟨j, by have := HJ.out; omega, by rw [E1.out], by rw [E2.out], rfl, (by first | rfl | trivial)⟩, ?_⟩
              simp only [intOf]; omega
        · have kx2 : (b = n) = False := eq_false hx2; have lx2 : (b == n) = false := (by simp [hx2])
          have E1 := hide (show fromI evs t n 2 j = F1 from S1.out.trans (by simp [Go.Proofs.Ytkdfdcppeolbjaa.HistFirst.hit, hx1, hx2]))
          clear hx1 hx2
          by_cases hy1 : a = u
          · have ky1 : (a = u) = True := eq_true hy1; have ly1 : (a == u) = true := (by simp [hy1])
            by_cases hy2 : b = m
            · have ky2 : (b = m) = True := eq_true hy2; have ly2 : (b == m) = true := (by simp [hy2])
              by_cases hy3 : c = 1
              · have ky3 : (c = 1) = True := eq_true hy3; have ly3 : (c == 1) = true := (by simp [hy3])
                have E2 := hide (show fromI evs u m 1 j = (j : Int) from S2.out.trans (by simp [Go.Proofs.Ytkdfdcppeolbjaa.HistFirst.hit, hy1, hy2, hy3]))
                clear hy1 hy2 hy3
                go_wp2
                refine ⟨⟨j, by have := HJ.out; omega, by rw [E1.out], by rw [E2.out], rfl, (by first | rfl | trivial)⟩, ?_⟩
                simp only [intOf]; omega
              · have ky3 : (c = 1) = False := eq_false hy3; have ly3 : (c == 1) = false := (by simp [hy3])
                have E2 := hide (show fromI evs u m 1 j = F2 from S2.out.trans (by simp [Go.Proofs.Ytkdfdcppeolbjaa.HistFirst.hit, hy1, hy2, hy3]))
                clear hy1 hy2 hy3
                go_wp2
                refine ⟨⟨j, by have := HJ.out; omega, by rw [E1.out], by rw [E2.out], rfl, (by first | rfl | trivial)⟩, ?_⟩
                simp only [intOf]; omega
            · have ky2 : (b = m) = False := eq_false hy2; have ly2 : (b == m) = false := (by simp [hy2])
              have E2 := hide (show fromI evs u m 1 j = F2 from S2.out.trans (by simp [Go.Proofs.Ytkdfdcppeolbjaa.HistFirst.hit, hy1, hy2]))
              clear hy1 hy2
              go_wp2
              refine ⟨⟨j, by have := HJ.out; omega, by rw [E1.out], by rw [E2.out], rfl, (by first | rfl | trivial)⟩, ?_⟩
              simp only [intOf]; omega
          · have ky1 : (a = u) = False := eq_false hy1; have ly1 : (a == u) = false := (by simp [hy1])
            have E2 := hide (show fromI evs u m 1 j = F2 from S2.out.trans (by simp [Go.Proofs.Ytkdfdcppeolbjaa.HistFirst.hit, hy1]))
            clear hy1
            go_wp2
            refine ⟨⟨j, by have := HJ.out; omega, by rw [E1.out], by rw [E2.out], rfl, (by first | rfl | trivial)⟩, ?_⟩
            simp only [intOf]; omega
      · have kx1 : (a = t) = False := eq_false hx1; have lx1 : (a == t) = false := (by simp [hx1])
        have E1 := hide (show fromI evs t n 2 j = F1 from S1.out.trans (by simp [Go.Proofs.Ytkdfdcppeolbjaa.HistFirst.hit, hx1]))
        clear hx1
        by_cases hy1 : a = u
        · have ky1 : (a = u) = True := eq_true hy1; have ly1 : (a == u) = true := (by simp [hy1])
          by_cases hy2 : b = m
          · have ky2 : (b = m) = True := eq_true hy2; have ly2 : (b == m) = true := (by simp [hy2])
            by_cases hy3 : c = 1
            · have ky3 : (c = 1) = True := eq_true hy3; have ly3 : (c == 1) = true := (by simp [hy3])
              have E2 := hide (show fromI evs u m 1 j = (j : Int) from S2.out.trans (by simp [Go.Proofs.Ytkdfdcppeolbjaa.HistFirst.hit, hy1, hy2, hy3]))
              clear hy1 hy2 hy3
              go_wp2
              refine ⟨⟨j, by have := HJ.out; omega, by rw [E1.out], by rw [E2.out], rfl, (by first | rfl | trivial)⟩, ?_⟩
              simp only [intOf]; omega
            · have ky3 : (c = 1) = False := eq_false hy3; have ly3 : (c == 1) = false := (by simp [hy3])
              have E2 := hide (show fromI evs u m 1 j = F2 from S2.out.trans (by simp [Go.Proofs.Ytkdfdcppeolbjaa.HistFirst.hit, hy1, hy2, hy3]))
              clear hy1 hy2 hy3
              go_wp2
              refine ⟨⟨j, by have := HJ.out; omega, by rw [E1.out], by rw [E2.out], rfl, (by first | rfl | trivial)⟩, ?_⟩
              simp only [intOf]; omega
          · have ky2 : (b = m) = False := eq_false hy2; have ly2 : (b == m) = false := (by simp [hy2])
            have E2 := hide (show fromI evs u m 1 j = F2 from S2.out.trans (by simp [Go.Proofs.Ytkdfdcppeolbjaa.HistFirst.hit, hy1, hy2]))
            clear hy1 hy2
            go_wp2
            refine ⟨⟨j, by have := HJ.out; omega, by rw [E1.out], by rw [E2.out], rfl, (by first | rfl | trivial)⟩, ?_⟩
            simp only [intOf]; omega
        · have ky1 : (a = u) = False := eq_false hy1; have ly1 : (a == u) = false := (by simp [hy1])
          have E2 := hide (show fromI evs u m 1 j = F2 from S2.out.trans (by simp [Go.Proofs.Ytkdfdcppeolbjaa.HistFirst.hit, hy1]))
          clear hy1
          go_wp2
          refine ⟨⟨j, by have := HJ.out; omega, by rw [E1.out], by rw [E2.out], rfl, (by first | rfl | trivial)⟩, ?_⟩
          simp only [intOf]; omega
end Go.Proofs.Ytkdfdcppeolbjaa.HistBef


