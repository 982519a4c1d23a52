/- Rows of cells that are the same are told to be: contracts of the document's SameRow and SameRows, each for every such two. -/
import Derived.Deep.QuietTactic
import Derived.Test.YtlkejpdclnbcoaaInn
import Derived.Test.YtlkejpdclnbcoaaCellEq
namespace Go.Proofs.Ytlkejpdclnbcoaa.RowsSame
open Go Go.RowKit Go.Proofs.YtlkejpdclnbcoaaKit Go.Proofs.Ytlkejpdclnbcoaa.Mem Go.Proofs.Ytlkejpdclnbcoaa.RowsBase Go.Proofs.Ytlkejpdclnbcoaa.Inn Go.Proofs.Ytlkejpdclnbcoaa.CellEq
attribute [local go_sem] cell_alloc_some cell_alloc2_some cell_alloc3_some cell_alloc4_some
set_option linter.unusedVariables false
set_option linter.unusedSimpArgs false
attribute [local go_sem] Ext.cell Ext.frozen
theorem own_get {W : World} {base g n cap : Nat} {cs : List C} (h : Own W base 49 2 (some g) n cap (flat cs)) (i : Nat) (c : C) (hc : cs[i]? = some c) : W.cell? ⟨g, i * 2, none⟩ = some (.int .i32 c.1) ∧ W.cell? ⟨g, i * 2 + 1, none⟩ = some (.int .i64 c.2) := by
  obtain ⟨f1, f2⟩ := flat_get cs i c hc
  obtain ⟨b1, e1, _, _, c1⟩ := h.cell _ _ f1
  obtain ⟨b2, e2, _, _, c2⟩ := h.cell _ _ f2
  cases e1; cases e2
  exact ⟨c1, c2⟩
theorem own_some {W : World} {base n cap : Nat} {lb : Option Nat} {cs : List C} (h : Own W base 49 2 lb n cap (flat cs)) {i : Nat} {c : C} (hc : cs[i]? = some c) : ∃ g, lb = some g := by
  obtain ⟨b1, e1, _⟩ := h.cell _ _ (flat_get cs i c hc).1
  exact ⟨b1, e1⟩
set_option maxHeartbeats 1000000 in
theorem sameRow_true (r : List C) (n : Nat) (hn : r.length = n) (hl : n ≤ 1000000) (lb1 lb2 : Option Nat) (k1 k2 : Nat) (o1 o2 : Option Addr) (q1 : sl lb1 n k1 = .slice o1 n k1) (q2 : sl lb2 n k2 = .slice o2 n k2) (w : World) (r1 : Own w 0 49 2 lb1 n k1 (flat r)) (r2 : Own w 0 49 2 lb2 n k2 (flat r)) :
    Calls Try.prog 30 #[.slice o1 n k1, .slice o2 n k2] w fun e w' => e = .returned (.bool true) ∧ Below w.heap.size w w' := by
  have HN := hide hn
  have HR1 := hide r1
  have HR2 := hide r2
  have HQ1 := hide q1
  have HQ2 := hide q2
  have ceq := fun (W : World) c e => cell_neq W c e
  clear hn r1 r2 q1 q2
  go_enter Try.func30, Try.ntmps30
  go_wp2
  go_loopw [5] (fun v5 wr => ∃ j : Nat, j ≤ n ∧ v5 = .int .i64 (j : Int) ∧ Below w.heap.size w wr) (fun v5 _ => (n - intOf v5).toNat)
  case atStart => exact ⟨0, Nat.zero_le _, rfl, be_refl _⟩
  case round =>
    obtain ⟨j, hj, rfl, hB⟩ := hrel
    have HB := hide hB
    by_cases hjl : j < n
    · have p1 : ((j : Int) < (n : Int)) = True := eq_true (by omega)
      have p1' : (j : Int) < (n : Int) := by omega
      have p0 : (0 : Int) ≤ (j : Int) := by omega
      obtain ⟨c, hc⟩ : ∃ c, r[j]? = some c := ⟨_, List.getElem?_eq_getElem (by have := HN.out; omega)⟩
      have hR1 := HR1.out.below hB
      have hR2 := HR2.out.below hB
      obtain ⟨g1, e1⟩ := own_some hR1 hc
      obtain ⟨g2, e2⟩ := own_some hR2 hc
      subst e1 e2
      obtain ⟨x0, x1⟩ := own_get hR1 j c hc
      obtain ⟨y0, y1⟩ := own_get hR2 j c hc
      obtain rfl : o1 = some ⟨g1, 0, none⟩ := by have := HQ1.out; simp [sl] at this; exact this.symm
      obtain rfl : o2 = some ⟨g2, 0, none⟩ := by have := HQ2.out; simp [sl] at this; exact this.symm
      have HJ := hide hjl
      obtain ⟨c1, c2⟩ := c
      dsimp only at x0 x1 y0 y1
      have cq := fun W => ceq W (c1, c2) (c1, c2)
      simp only [decide_true, Bool.not_true] at cq
      clear hc hj hjl hB hR1 hR2 ceq
      go_upto_region 6 with fail
      go_quiet (fail)
      go_wp2
      exact ⟨⟨j + 1, by have := HJ.out; omega, by simp, by first | exact HB.out | exact be_drewN HB.out⟩, by simp only [intOf]; have := HJ.out; omega⟩
    · have p1 : ((j : Int) < (n : Int)) = False := eq_false (by omega)
      clear hj hjl
      go_wp2
      go_ret
      exact ⟨rfl, by first | exact HB.out | exact be_drewN HB.out⟩
set_option maxHeartbeats 4000000 in
set_option maxRecDepth 100000 in
theorem sameRows_true (rs : List R) (n : Nat) (hn : rs.length = n) (hl : n ≤ 1000000) (hrl : ∀ r ∈ rs, r.length ≤ 1000000) (lb1 lb2 : Option Nat) (k1 k2 : Nat) (o1 o2 : Option Addr) (q1 : sl lb1 n k1 = .slice o1 n k1) (q2 : sl lb2 n k2 = .slice o2 n k2) (vs us : List Value) (w : World)
    (r1 : OwnR w 0 lb1 n k1 vs) (i1 : Inn w 0 vs rs) (r2 : OwnR w 0 lb2 n k2 us) (i2 : Inn w 0 us rs) :
    Calls Try.prog 23 #[.slice o1 n k1, .slice o2 n k2] w fun e w' => e = .returned (.bool true) ∧ Below w.heap.size w w' := by
  have HN := hide hn
  have HL := hide hrl
  have HR1 := hide r1
  have HR2 := hide r2
  have HI1 := hide i1
  have HI2 := hide i2
  have HQ1 := hide q1
  have HQ2 := hide q2
  clear hn r1 r2 q1 q2 i1 i2 hrl
  go_enter Try.func23, Try.ntmps23
  go_wp2
  go_loopw [5] (fun v5 wr => ∃ j : Nat, j ≤ n ∧ v5 = .int .i64 (j : Int) ∧ Below w.heap.size w wr) (fun v5 _ => (n - intOf v5).toNat)
  case atStart => exact ⟨0, Nat.zero_le _, rfl, be_refl _⟩
  case round =>
    obtain ⟨j, hj, rfl, hB⟩ := hrel
    have HB := hide hB
    by_cases hjl : j < n
    · have p1 : ((j : Int) < (n : Int)) = True := eq_true (by omega)
      have p1' : (j : Int) < (n : Int) := by omega
      have p0 : (0 : Int) ≤ (j : Int) := by omega
      obtain ⟨r, hr⟩ : ∃ r, rs[j]? = some r := ⟨_, List.getElem?_eq_getElem (by have := HN.out; omega)⟩
      have hrl := HL.out r (List.mem_of_getElem? hr)
      obtain ⟨l1, m1, f1, _, g1⟩ := HI1.out.at_ j r hr
      obtain ⟨l2, m2, f2, _, g2⟩ := HI2.out.at_ j r hr
      obtain ⟨b1, e1, _, _, c1⟩ := (HR1.out.below hB).cell j _ f1
      obtain ⟨b2, e2, _, _, c2⟩ := (HR2.out.below hB).cell j _ f2
      subst e1 e2
      obtain ⟨L, hL⟩ : ∃ L, r.length = L := ⟨_, rfl⟩
      rw [hL] at c1 c2 g1 g2 hrl
      obtain ⟨p, hp⟩ := sl_to l1 L m1
      obtain ⟨q, hq⟩ := sl_to l2 L m2
      rw [hp] at c1
      rw [hq] at c2
      obtain rfl : o1 = some ⟨b1, 0, none⟩ := by have := HQ1.out; simp [sl] at this; exact this.symm
      obtain rfl : o2 = some ⟨b2, 0, none⟩ := by have := HQ2.out; simp [sl] at this; exact this.symm
      have SR := hide (fun x : Ext wr => sameRow_true r L hL hrl l1 l2 m1 m2 p q hp hq x.w' ((g1.below hB).below x.below) ((g2.below hB).below x.below))
      have HJ := hide hjl
      clear hr hrl f1 f2 g1 g2 hL hp hq hj hjl hB
      go_upto_region 6 with fail
      refine wp_region_fresh_lit (by kernel_rfl) (by kernel_rfl) ?_
      repeat (quiet_step (fail))
      quiet_step ((go_at_call 30; apply fresh_call; with_reducible exact SR.out _))
      repeat (quiet_step (fail))
      refine wpQuiet_nil ?_
      rintro _ ⟨⟨W6, hb6⟩, rfl⟩
      have HB6 := hide (be_call hb6 HB.out.size HB.out)
      clear hb6
      (try dsimp only)
      go_wp2
      exact ⟨⟨j + 1, by have := HJ.out; omega, by simp, by first | exact HB6.out | exact be_drewN HB6.out⟩, by simp only [intOf]; have := HJ.out; omega⟩
    · have p1 : ((j : Int) < (n : Int)) = False := eq_false (by omega)
      clear hj hjl
      go_wp2
      go_ret
      exact ⟨rfl, by first | exact HB.out | exact be_drewN HB.out⟩
end Go.Proofs.Ytlkejpdclnbcoaa.RowsSame


