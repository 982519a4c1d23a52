/- Pools: what New makes: a contract, for every number up to a thousand. -/
import Derived.Test.YtlkejpdclnbcoaaPoolBase
namespace Go.Proofs.Ytlkejpdclnbcoaa.PoolNew
open Go.RowKit Go.Proofs.YtlkejpdclnbcoaaKit Go.Proofs.YtlkejpdclnbcoaaW.PrintWords Go.Proofs.YtlkejpdclnbcoaaW.PrintLast Go.Proofs.Ytlkejpdclnbcoaa.PoolBase
set_option linter.unusedVariables false
set_option linter.unusedSimpArgs false
theorem bufInfo : (Try.prog.info? 78).map (fun i => (i.zero, i.size, i.bytes)) = some (some (.agg #[.int .i64 0, .int .i64 0, .slice none 0 0, .int .i64 0, .int .i64 0, .bool false, .int .i64 0, .bool false]), 8, 80) := by kernel_rfl
theorem made (n : Nat) : madeCells #[.int .i64 0, .int .i64 0, .slice none 0 0, .int .i64 0, .int .i64 0, .bool false, .int .i64 0, .bool false] (n * 8) = (flat (List.replicate n (0, 0, false))).toArray := by
  apply Array.ext_getElem?
  intro k
  unfold madeCells
  rw [Array.getElem?_map]
  have ht : (flat (List.replicate n (0, 0, false))).toArray[k]? = (flat (List.replicate n (0, 0, false)))[k]? := List.getElem?_toArray
  rw [ht]
  by_cases hk : k < n * 8
  · have hb : (List.replicate n ((0 : Int), (0 : Int), false))[k / 8]? = some (0, 0, false) := by rw [List.getElem?_replicate, if_pos (by omega)]
    rw [flat_get _ (k / 8) (k % 8) k _ hb (by omega) (by omega)]
    rw [Array.getElem?_range, if_pos hk]
    have : k % 8 = 0 ∨ k % 8 = 1 ∨ k % 8 = 2 ∨ k % 8 = 3 ∨ k % 8 = 4 ∨ k % 8 = 5 ∨ k % 8 = 6 ∨ k % 8 = 7 := by omega
    have hs : (#[Value.int .i64 0, .int .i64 0, .slice none 0 0, .int .i64 0, .int .i64 0, .bool false, .int .i64 0, .bool false] : Array Value).size = 8 := rfl
    simp only [Option.map_some, hs]
    rcases this with h | h | h | h | h | h | h | h <;> (rw [h]; rfl)
  · rw [Array.getElem?_range, if_neg hk, List.getElem?_eq_none (by rw [flat_len, List.length_replicate]; omega)]
    rfl
set_option maxHeartbeats 8000000 in
theorem new_calls (n : Nat) (w : World) (hn : n ≤ 1000) :
    Calls Try.prog 7 #[.int .i64 (n : Int)] w fun e W' => ∃ g pb, e = .returned (.pointer (some ⟨g, 0, none⟩)) ∧ Pl w W' g pb (List.replicate n (0, 0, false)) := by
  obtain ⟨i, hi, hz, hs, hb⟩ : ∃ i, Try.prog.info? 78 = some i ∧ i.zero = some (.agg #[.int .i64 0, .int .i64 0, .slice none 0 0, .int .i64 0, .int .i64 0, .bool false, .int .i64 0, .bool false]) ∧ i.size = 8 ∧ i.bytes = 80 := by
    have h := bufInfo
    cases hq : Try.prog.info? 78 with
    | none => rw [hq] at h; cases h
    | some i =>
      rw [hq] at h
      simp only [Option.map_some, Option.some.injEq, Prod.mk.injEq] at h
      exact ⟨i, rfl, h.1, h.2.1, h.2.2⟩
  have hmk : ∀ w : World, (Instr.makeSlice 60 (.int .i64 (n : Int)) (.int .i64 (n : Int))).run Try.prog w = .ok (.slice (some ⟨w.heap.size, 0, none⟩) n n) (w.alloc (.cells (flat (List.replicate n (0, 0, false))).toArray 78)) := fun w => by
    have h : (i.bytes : Int) * ((n : Nat) : Int) ≤ 281474976710656 := by rw [hb]; omega
    have hr := run_make (P := Try.prog) w 60 78 i _ Try.underlying60 hi hz .i64 .i64 n n (by omega) (by omega) h (by omega)
    simp only [Int.toNat_natCast, hs] at hr
    rw [hr]
    show Result.ok _ (w.alloc (.cells (madeCells #[.int .i64 0, .int .i64 0, .slice none 0 0, .int .i64 0, .int .i64 0, .bool false, .int .i64 0, .bool false] (n * 8)) _)) = _
    rw [made]
  have p0 : ((n : Int) < 0) = False := eq_false (by omega)
  have p1 : ((1000 : Int) < (n : Int)) = False := eq_false (by omega)
  have hlen : (List.replicate n ((0 : Int), (0 : Int), false)).length = n := List.length_replicate
  generalize hbs : List.replicate n ((0 : Int), (0 : Int), false) = bs at *
  clear hbs hi hz hs hb
  have HL := hide hlen
  clear hlen
  go_enter Try.func7, Try.ntmps7
  go_wp2
  go_ret
  refine ⟨w.heap.size + 1, w.heap.size, rfl, ?_, bs_alloc (bs_new rfl), by omega, by omega, by omega, be_alloc (be_alloc (be_refl _) (Nat.le_refl _)) (by simp)⟩
  rw [HL.out]
  exact bs_new (by simp)
end Go.Proofs.Ytlkejpdclnbcoaa.PoolNew

