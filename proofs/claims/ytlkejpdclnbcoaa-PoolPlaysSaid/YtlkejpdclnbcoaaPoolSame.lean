/- Frames that are the same are told to be; a pool of none or some: contracts. -/
import Derived.Test.YtlkejpdclnbcoaaPoolPlaysM
import Derived.Test.YtlkejpdclnbcoaaRowsSame
namespace Go.Proofs.Ytlkejpdclnbcoaa.PoolPlaysM
open Go Go.RowKit Go.Proofs.YtlkejpdclnbcoaaKit Go.Proofs.Ytlkejpdclnbcoaa.Mem Go.Proofs.YtlkejpdclnbcoaaW.PrintWords Go.Proofs.YtlkejpdclnbcoaaW.PrintLast Go.Proofs.Ytlkejpdclnbcoaa.Inn Go.Proofs.Ytlkejpdclnbcoaa.Split Go.Proofs.Ytlkejpdclnbcoaa.PoolV Go.Proofs.Ytlkejpdclnbcoaa.RowsSame
open Go.Proofs.Ytlkejpdclnbcoaa.PoolBase (Fr far_setCells)
attribute [local go_sem] cell_alloc_some cell_alloc2_some cell_alloc3_some cell_alloc4_some
set_option linter.unusedVariables false
set_option linter.unusedSimpArgs false
theorem rows_of {W : World} {o : Option Addr} {n k : Nat} {rs : List R} (h : RowsAt W 0 (.slice o n k) rs) : rs.length = n ∧ ∃ (lb : Option Nat) (vs : List Value), sl lb n k = .slice o n k ∧ OwnR W 0 lb n k vs ∧ Inn W 0 vs rs := by
  obtain ⟨lb, cap, vs, hv, h2, h3⟩ := h
  unfold sl at hv
  injection hv with e1 e2 e3
  subst e1 e2 e3
  exact ⟨rfl, lb, vs, rfl, h2, h3⟩
set_option maxHeartbeats 4000000 in
set_option maxRecDepth 100000 in
theorem sameFrame_true (a : Int) (o1 o2 : Option Addr) (n k1 k2 : Nat) (rs : List R) (hl : n ≤ 1000000) (hrl : ∀ r ∈ rs, r.length ≤ 1000000) (w : World) (h1 : RowsAt w 0 (.slice o1 n k1) rs) (h2 : RowsAt w 0 (.slice o2 n k2) rs) :
    Calls Try.prog 16 #[frV a (.slice o1 n k1), frV a (.slice o2 n k2)] w fun e w' => e = .returned (.bool true) ∧ Below w.heap.size w w' := by
  obtain ⟨hn, lb1, vs, q1, r1, i1⟩ := rows_of h1
  obtain ⟨_, lb2, us, q2, r2, i2⟩ := rows_of h2
  have HC := hide (fun (W : World) (hb : Below w.heap.size w W) => sameRows_true rs n hn hl hrl lb1 lb2 k1 k2 o1 o2 q1 q2 vs us W (r1.below hb) (i1.below hb) (r2.below hb) (i2.below hb))
  unfold frV
  clear h1 h2 hn q1 q2 r1 r2 i1 i2 hrl
  go_enter Try.func16, Try.ntmps16
  go_wp2_with (go_at_call 23; (with_reducible refine (HC.out _ ?hb).mono ?_); (case hb => exact be_alloc (be_alloc (be_refl _) (Nat.le_refl _)) (by simp)); rintro e W2 ⟨rfl, hb2⟩; have hz := hb2.size; (try simp at hz))
  go_ret
  exact ⟨rfl, be_call hb2 (by simp; omega) (be_alloc (be_alloc (be_refl _) (Nat.le_refl _)) (by simp))⟩
set_option maxHeartbeats 8000000 in
theorem new_none (w : World) :
    Calls Try.prog 7 #[.int .i64 (-1)] w fun e W' => ∃ g pb, e = .returned (.pointer (some ⟨g, 0, none⟩)) ∧ Pv w W' g pb [] := by
  obtain ⟨i, hi, hz, hs, hb⟩ : ∃ i, Try.prog.info? 78 = some i ∧ i.zero = some (.agg #[.int .i64 0, .int .i64 0, .slice none 0 0, .int .i64 0, .int .i64 0, .bool false, .int .i64 0, .bool false]) ∧ i.size = 8 ∧ i.bytes = 80 := by
    have h := PoolNew.bufInfo
    cases hq : Try.prog.info? 78 with
    | none => rw [hq] at h; cases h
    | some i =>
      rw [hq] at h
      simp only [Option.map_some, Option.some.injEq, Prod.mk.injEq] at h
      exact ⟨i, rfl, h.1, h.2.1, h.2.2⟩
  have hmk : ∀ w : World, (Instr.makeSlice 60 (.int .i64 0) (.int .i64 0)).run Try.prog w = .ok (.slice (some ⟨w.heap.size, 0, none⟩) 0 0) (w.alloc (.cells (fl []).toArray 78)) := fun w => by
    have h : (i.bytes : Int) * ((0 : Nat) : Int) ≤ 281474976710656 := by rw [hb]; omega
    have hr := run_make (P := Try.prog) w 60 78 i _ Try.underlying60 hi hz .i64 .i64 0 0 (by omega) (by omega) h (by omega)
    rw [hr, hs]
    show Result.ok _ (w.alloc (.cells (madeCells #[.int .i64 0, .int .i64 0, .slice none 0 0, .int .i64 0, .int .i64 0, .bool false, .int .i64 0, .bool false] (0 * 8)) _)) = _
    rw [PoolNew.made]
    rfl
  clear hi hz hs hb
  go_enter Try.func7, Try.ntmps7
  go_wp2
  go_ret
  exact ⟨w.heap.size + 1, w.heap.size, rfl, bs_new (by simp), bs_alloc (bs_new rfl), by omega, by omega, by omega, be_alloc (be_alloc (be_refl _) (Nat.le_refl _)) (by simp), fun b hb => by cases hb⟩
theorem new_some (n : Nat) (w : World) (hn : n ≤ 1000) :
    Calls Try.prog 7 #[.int .i64 (n : Int)] w fun e W' => ∃ g pb, e = .returned (.pointer (some ⟨g, 0, none⟩)) ∧ Pv w W' g pb (List.replicate n ⟨0, none, 0, 0, [], 0, false⟩) :=
  (PoolNew.new_calls n w hn).mono fun e W' ⟨g, pb, he, hp⟩ => ⟨g, pb, he, by have h := Pv.of hp; rw [List.map_replicate] at h; exact h⟩
/-- New of the law's number: with as many buffers as are told, or none. -/
theorem new_any (z : Int) (m : Nat) (w : World) (hm : m ≤ 6) (hz : z = (m : Int) ∨ (z = -1 ∧ m = 0)) :
    Calls Try.prog 7 #[.int .i64 z] w fun e W' => ∃ g pb, e = .returned (.pointer (some ⟨g, 0, none⟩)) ∧ Pv w W' g pb (List.replicate m ⟨0, none, 0, 0, [], 0, false⟩) := by
  rcases hz with rfl | ⟨rfl, rfl⟩
  · exact new_some m w (by omega)
  · exact new_none w
end Go.Proofs.Ytlkejpdclnbcoaa.PoolPlaysM


