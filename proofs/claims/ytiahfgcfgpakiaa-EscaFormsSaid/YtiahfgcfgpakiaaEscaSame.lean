/- Rows and escapes that are the same are told to be: contracts, each for every such two. -/
import Derived.Test.YtiahfgcfgpakiaaEscaFeed
namespace Go.Proofs.Ytiahfgcfgpakiaa.EscaVal
open Go Go.RowKit Go.Proofs.YtiahfgcfgpakiaaKit Go.Proofs.Ytiahfgcfgpakiaa.Mem Go.Proofs.YtiahfgcfgpakiaaW.PrintWords Go.Proofs.YtiahfgcfgpakiaaW.PrintLast Go.Proofs.Ytiahfgcfgpakiaa.Split
set_option linter.unusedVariables false
set_option linter.unusedSimpArgs false
set_option maxHeartbeats 1000000 in
theorem sameInts_true (xs : List Int) (hl : xs.length ≤ 1000000) (A1 A2 : Option Addr) (c1 c2 : Nat) (w : World) (r1 : Rd w 0 A1 (xs.map (.int .i64))) (r2 : Rd w 0 A2 (xs.map (.int .i64))) :
    Calls Try.prog 19 #[.slice A1 xs.length c1, .slice A2 xs.length c2] w fun e w' => e = .returned (.bool true) ∧ Below w.heap.size w w' := by
  obtain ⟨L, hL⟩ : ∃ L, L = xs.length := ⟨_, rfl⟩
  have HUL := hide hL
  rw [← hL] at hl ⊢
  have HR1 := hide r1
  have HR2 := hide r2
  clear hL r1 r2
  go_enter Try.func19, Try.ntmps19
  go_wp2
  go_loopw [5] (fun v5 wr => ∃ j : Nat, j ≤ L ∧ v5 = .int .i64 (j : Int) ∧ Below w.heap.size w wr) (fun v5 _ => (L - intOf v5).toNat)
  case atStart => exact ⟨0, Nat.zero_le _, rfl, be_refl _⟩
  case round =>
    obtain ⟨j, hj, rfl, hB⟩ := hrel
    have HB := hide hB
    by_cases hjl : j < L
    · have r1 : ((j : Int) < (L : Int)) = True := eq_true (by omega)
      have r1' : (j : Int) < (L : Int) := by omega
      have r0 : (0 : Int) ≤ (j : Int) := by omega
      obtain ⟨x, hx⟩ : ∃ x, xs[j]? = some x := ⟨_, List.getElem?_eq_getElem (by have := HUL.out; omega)⟩
      obtain ⟨a1, e1, _, hc1⟩ := (HR1.out.below hB).at_ j (.int .i64 x) (by simp [hx])
      obtain ⟨a2, e2, _, hc2⟩ := (HR2.out.below hB).at_ j (.int .i64 x) (by simp [hx])
      subst e1 e2
      have HJ := hide hjl
      clear hx hj hjl hB
      go_upto_region 6 with fail
      go_quiet (fail)
      go_wp2
      exact ⟨⟨j + 1, by have := HJ.out; omega, by simp, by first | exact HB.out | exact be_drewN HB.out⟩, by simp only [intOf]; have := HJ.out; omega⟩
    · have r1 : ((j : Int) < (L : Int)) = False := eq_false (by omega)
      clear hj hjl
      go_wp2
      go_ret
      exact ⟨rfl, by first | exact HB.out | exact be_drewN HB.out⟩
attribute [local go_sem] Ext.cell Ext.frozen
/-- Actions that may be read. -/
structure AR (W : World) (lb : Option Nat) (l : List Act3) (ds : List ActD) : Prop where
  map : ds.map (·.1) = l
  rd : Rd W 0 (lb.map fun b => ⟨b, 0, none⟩) (flatD ds)
  par : ∀ d ∈ ds, Rd W 0 d.2.1 (d.1.2.2.map (.int .i64))
theorem AR.below {W W' : World} {lb : Option Nat} {l : List Act3} {ds : List ActD} (h : AR W lb l ds) (hb : Below W.heap.size W W') : AR W' lb l ds := ⟨h.map, h.rd.below hb, fun d hd => (h.par d hd).below hb⟩
theorem ActsL.ar {W : World} {base : Nat} {lb : Option Nat} {cap : Nat} {l : List Act3} {ds : List ActD} (h : ActsL W base lb cap l ds) : AR W lb l ds :=
  ⟨h.map, (Rd.of h.own).lower (Nat.zero_le _), fun d hd => rd_of_C (Kd.F_now (h.par d hd).2)⟩
theorem flatD_get {ds : List ActD} {j : Nat} {d : ActD} (h : ds[j]? = some d) : (flatD ds)[j * 3]? = some (.int .i64 d.1.1) ∧ (flatD ds)[j * 3 + 1]? = some (.int .i32 d.1.2.1) ∧ (flatD ds)[j * 3 + 2]? = some (.slice d.2.1 d.1.2.2.length d.2.2) := by
  induction ds generalizing j with
  | nil => simp at h
  | cons a ds ih =>
    cases j with
    | zero => simp at h; subst h; exact ⟨rfl, rfl, rfl⟩
    | succ j =>
      have h2 := ih (j := j) (by simpa using h)
      have e : flatD (a :: ds) = .int .i64 a.1.1 :: .int .i32 a.1.2.1 :: .slice a.2.1 a.1.2.2.length a.2.2 :: flatD ds := rfl
      rw [e, show (j + 1) * 3 = j * 3 + 3 by omega]
      exact ⟨by simpa using h2.1, by simpa using h2.2.1, by simpa using h2.2.2⟩
/-- What stands at one place of such a row. -/
theorem AR.at_ {W : World} {lb : Option Nat} {l : List Act3} {ds : List ActD} (h : AR W lb l ds) {j : Nat} {a : Act3} (ha : l[j]? = some a) : ∃ (b : Nat) (A : Option Addr) (c : Nat), lb = some b ∧ b < W.heap.size ∧ W.cell? ⟨b, j * 3, none⟩ = some (.int .i64 a.1) ∧ W.cell? ⟨b, j * 3 + 1, none⟩ = some (.int .i32 a.2.1) ∧ W.cell? ⟨b, j * 3 + 2, none⟩ = some (.slice A a.2.2.length c) ∧ Rd W 0 A (a.2.2.map (.int .i64)) := by
  rw [← h.map, List.getElem?_map] at ha
  cases hd : ds[j]? with
  | none => rw [hd] at ha; cases ha
  | some d =>
    rw [hd] at ha
    cases ha
    obtain ⟨f0, f1, f2⟩ := flatD_get hd
    obtain ⟨a0, e0, _, h0⟩ := h.rd.at_ _ _ f0
    obtain ⟨a1, e1, _, h1⟩ := h.rd.at_ _ _ f1
    obtain ⟨a2, e2, _, h2⟩ := h.rd.at_ _ _ f2
    cases lb with
    | none => cases e0
    | some b =>
      cases e0
      cases e1
      cases e2
      rw [add_head] at h0 h1 h2
      refine ⟨b, d.2.1, d.2.2, rfl, ?_, h0, h1, h2, h.par d (List.mem_of_getElem? hd)⟩
      rcases Nat.lt_or_ge b W.heap.size with hlt | hge
      · exact hlt
      · unfold World.cell? at h0
        rw [Array.getElem?_eq_none hge] at h0
        cases h0
set_option maxHeartbeats 4000000 in
set_option maxRecDepth 100000 in
theorem sameActs_true (l : List Act3) (hl : l.length ≤ 1000000) (hp : ∀ a ∈ l, a.2.2.length ≤ 1000000) (lb1 lb2 : Option Nat) (c1 c2 : Nat) (ds1 ds2 : List ActD) (w : World) (r1 : AR w lb1 l ds1) (r2 : AR w lb2 l ds2) :
    Calls Try.prog 12 #[sl lb1 l.length c1, sl lb2 l.length c2] w fun e w' => e = .returned (.bool true) ∧ Below w.heap.size w w' := by
  obtain ⟨L, hL⟩ : ∃ L, L = l.length := ⟨_, rfl⟩
  have HUL := hide hL
  rw [← hL] at hl ⊢
  have HR1 := hide r1
  have HR2 := hide r2
  have HP := hide hp
  obtain ⟨o1, ho1⟩ : ∃ o, o = lb1.map fun b => (⟨b, 0, none⟩ : Addr) := ⟨_, rfl⟩
  obtain ⟨o2, ho2⟩ : ∃ o, o = lb2.map fun b => (⟨b, 0, none⟩ : Addr) := ⟨_, rfl⟩
  have HO1 := hide ho1
  have HO2 := hide ho2
  unfold sl
  rw [← ho1, ← ho2]
  clear hL r1 r2 hp ho1 ho2
  go_enter Try.func12, Try.ntmps12
  go_wp2
  go_loopw [5] (fun v5 wr => ∃ j : Nat, j ≤ L ∧ v5 = .int .i64 (j : Int) ∧ Below w.heap.size w wr) (fun v5 _ => (L - intOf v5).toNat)
  case atStart => exact ⟨0, Nat.zero_le _, rfl, be_refl _⟩
  case round =>
    obtain ⟨j, hj, rfl, hB⟩ := hrel
    have HB := hide hB
    by_cases hjl : j < L
    · have r1 : ((j : Int) < (L : Int)) = True := eq_true (by omega)
      have r1' : (j : Int) < (L : Int) := by omega
      have r0 : (0 : Int) ≤ (j : Int) := by omega
      obtain ⟨⟨k, x, ps⟩, hx⟩ : ∃ x, l[j]? = some x := ⟨_, List.getElem?_eq_getElem (by have := HUL.out; omega)⟩
      have hpl := HP.out _ (List.mem_of_getElem? hx)
      obtain ⟨b1, A1, q1, e1, _, x0, x1, x2, hp1⟩ := (HR1.out.below hB).at_ hx
      obtain ⟨b2, A2, q2, e2, _, y0, y1, y2, hp2⟩ := (HR2.out.below hB).at_ hx
      dsimp only at x0 x1 x2 y0 y1 y2 hp1 hp2 hpl
      have z1 : o1 = some ⟨b1, 0, none⟩ := by rw [HO1.out, e1]; rfl
      have z2 : o2 = some ⟨b2, 0, none⟩ := by rw [HO2.out, e2]; rfl
      subst z1 z2
      have SI := hide (fun x : Ext wr => sameInts_true ps hpl A1 A2 q1 q2 x.w' (hp1.below x.below) (hp2.below x.below))
      have HJ := hide hjl
      clear hx hj hjl hB hp1 hp2 hpl e1 e2
      go_upto_region 6 with fail
      refine wp_region_fresh_lit (by kernel_rfl) (by kernel_rfl) ?_
      repeat (quiet_step (fail))
      quiet_step ((go_at_call 19; apply fresh_call; with_reducible exact SI.out _))
      repeat (quiet_step (fail))
      refine wpQuiet_nil ?_
      rintro _ ⟨⟨W6, hb6⟩, rfl⟩
      have HB6 := hide (be_call hb6 HB.out.size HB.out)
      clear hb6
      (try dsimp only)
      go_wp2
      exact ⟨⟨j + 1, by have := HJ.out; omega, by simp, by first | exact HB6.out | exact be_drewN HB6.out⟩, by simp only [intOf]; have := HJ.out; omega⟩
    · have r1 : ((j : Int) < (L : Int)) = False := eq_false (by omega)
      clear hj hjl
      go_wp2
      go_ret
      exact ⟨rfl, by first | exact HB.out | exact be_drewN HB.out⟩
set_option maxHeartbeats 4000000 in
theorem sameEsc_true (s : E8) (hl : s.ps.length ≤ 1000000) (A1 A2 : Option Addr) (c1 c2 : Nat) (w : World) (r1 : Rd w 0 A1 (s.ps.map (.int .i64))) (r2 : Rd w 0 A2 (s.ps.map (.int .i64))) :
    Calls Try.prog 15 #[esV s A1 s.ps.length c1, esV s A2 s.ps.length c2] w fun e w' => e = .returned (.bool true) ∧ Below w.heap.size w w' := by
  have SI := fun (W : World) (hb : Below w.heap.size w W) => hide (sameInts_true s.ps hl A1 A2 c1 c2 W (r1.below hb) (r2.below hb))
  clear r1 r2 hl
  go_enter Try.func15, Try.ntmps15
  go_wp2_with (go_at_call 19; (with_reducible refine (SI _ (by (repeat (first | (with_reducible assumption) | with_reducible exact be_refl _ | (with_reducible refine be_set ?_ (by dsimp only; omega)) | (with_reducible apply be_drew) | (with_reducible apply be_drewN) | (with_reducible refine be_alloc ?_ (by first | omega | (simp; omega) | simp)) | (with_reducible refine be_call (by with_reducible assumption) (by first | omega | (simp; omega) | simp) ?_))))).out.mono ?_); rintro e w9 ⟨rfl, hb9⟩; have hz9 := hb9.size; (try simp at hz9); obtain ⟨hc9, hf9⟩ := be_cells hb9; have z9 : w.heap.size < w9.heap.size := (by omega); have y9 : w.heap.size + 1 < w9.heap.size := (by omega))
  go_ret
  exact ⟨rfl, by (repeat (first | (with_reducible assumption) | with_reducible exact be_refl _ | (with_reducible refine be_set ?_ (by dsimp only; omega)) | (with_reducible apply be_drew) | (with_reducible apply be_drewN) | (with_reducible refine be_alloc ?_ (by first | omega | (simp; omega) | simp)) | (with_reducible refine be_call (by with_reducible assumption) (by first | omega | (simp; omega) | simp) ?_)))⟩
end Go.Proofs.Ytiahfgcfgpakiaa.EscaVal


