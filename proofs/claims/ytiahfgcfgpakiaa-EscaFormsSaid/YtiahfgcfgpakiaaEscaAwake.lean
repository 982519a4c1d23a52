/- The law's awake holds: a contract, without a condition. -/
import Derived.Test.YtiahfgcfgpakiaaEscaUse
import Derived.Lib.SlBytesConst
namespace Go.Proofs.Ytiahfgcfgpakiaa.EscaVal
open Go Go.RowKit Go.Proofs.YtiahfgcfgpakiaaKit Go.Proofs.Ytiahfgcfgpakiaa.Mem Go.Proofs.YtiahfgcfgpakiaaW.PrintWords Go.Proofs.YtiahfgcfgpakiaaW.PrintLast Go.Proofs.Ytiahfgcfgpakiaa.Split
set_option linter.unusedVariables false
set_option linter.unusedSimpArgs false
def aw1 : List Int := [97, 27, 91, 49, 59, 63, 50, 74, 27, 91, 63, 50, 53, 108, 195, 7]
def aw2 : List Int := [27, 91, 59, 53, 109, 27, 93, 48, 59, 120, 7, 27, 77]
def al1 : List Act3 := [(1, 97, []), (5, 108, [25]), (1, 65533, []), (2, 7, [])]
def al2 : List Act3 := [(4, 109, [-1, 5]), (3, 77, [])]
theorem aw1_fed : feedP e0 aw1 = (e0, al1) := by kernel_rfl
theorem aw2_fed : feedP e0 aw2 = (e0, al2) := by kernel_rfl
theorem ok_of (l : List Int) (h : l.all (fun x => decide (0 ≤ x) && decide (x ≤ 255)) = true) : ∀ x ∈ l, 0 ≤ x ∧ x ≤ 255 := by
  intro x hx
  have := List.all_eq_true.1 h x hx
  simpa using this
theorem feed1 (oa : Option Addr) (cb : Nat) (w : World) (hr : Rd w 0 oa (aw1.map (.int .u8))) :
    Calls Try.prog 11 #[.agg #[.int .i64 0, .int .i64 0, .int .i64 0, .int .i64 0, .slice none 0 0, .int .i64 0, .bool false, .bool false], .slice oa 16 cb] w fun e w' => ∃ (A : Option Addr) (c : Nat) (lb : Option Nat) (cap : Nat) (o : Option Addr) (ds : List ActD), e = .returned (.tuple #[.agg #[.int .i64 0, .int .i64 0, .int .i64 0, .int .i64 0, .slice A 0 c, .int .i64 0, .bool false, .bool false], .slice o 4 cap]) ∧ sl lb 4 cap = .slice o 4 cap ∧ AR w' lb al1 ds ∧ Below w.heap.size w w' :=
  (feed_zero aw1 (ok_of _ (by kernel_rfl)) (by decide) oa 16 cb rfl w hr).mono fun e w' h => by
    rw [aw1_fed] at h
    obtain ⟨A, c, lb, cap, ds, rfl, _, _, ha, hb⟩ := h
    obtain ⟨o, ho⟩ := sl_to lb 4 cap
    exact ⟨A, c, lb, cap, o, ds, by rw [← ho]; rfl, ho, ha.ar, hb⟩
theorem feed2 (oa : Option Addr) (cb : Nat) (w : World) (hr : Rd w 0 oa (aw2.map (.int .u8))) :
    Calls Try.prog 11 #[.agg #[.int .i64 0, .int .i64 0, .int .i64 0, .int .i64 0, .slice none 0 0, .int .i64 0, .bool false, .bool false], .slice oa 13 cb] w fun e w' => ∃ (A : Option Addr) (c : Nat) (lb : Option Nat) (cap : Nat) (o : Option Addr) (ds : List ActD), e = .returned (.tuple #[.agg #[.int .i64 0, .int .i64 0, .int .i64 0, .int .i64 0, .slice A 0 c, .int .i64 0, .bool false, .bool false], .slice o 2 cap]) ∧ sl lb 2 cap = .slice o 2 cap ∧ AR w' lb al2 ds ∧ Below w.heap.size w w' :=
  (feed_zero aw2 (ok_of _ (by kernel_rfl)) (by decide) oa 13 cb rfl w hr).mono fun e w' h => by
    rw [aw2_fed] at h
    obtain ⟨A, c, lb, cap, ds, rfl, _, _, ha, hb⟩ := h
    obtain ⟨o, ho⟩ := sl_to lb 2 cap
    exact ⟨A, c, lb, cap, o, ds, by rw [← ho]; rfl, ho, ha.ar, hb⟩
theorem same1 (o1 : Option Addr) (cap1 : Nat) (lb1 : Option Nat) (ds1 : List ActD) (b g : Nat) (W : World) (ho : sl lb1 4 cap1 = .slice o1 4 cap1) (ha : AR W lb1 al1 ds1)
    (h1 : W.heap[b]? = some (.cells #[.int .i64 1, .int .i32 97, .slice none 0 0, .int .i64 5, .int .i32 108, .slice (some ⟨g, 0, none⟩) 1 1, .int .i64 1, .int .i32 65533, .slice none 0 0, .int .i64 2, .int .i32 7, .slice none 0 0] 24 (0, 0)))
    (h2 : W.heap[g]? = some (.cells #[.int .i64 25] 3 (0, 0))) :
    Calls Try.prog 12 #[.slice o1 4 cap1, .slice (some ⟨b, 0, none⟩) 4 4] W fun e w' => e = .returned (.bool true) ∧ Below W.heap.size W w' := by
  refine sameActs_at al1 4 rfl (by decide) (by intro a h; simp [al1] at h; rcases h with rfl | rfl | rfl | rfl <;> simp) lb1 (some b) o1 (some ⟨b, 0, none⟩) cap1 4 ho rfl ds1 [((1, 97, []), none, 0), ((5, 108, [25]), some ⟨g, 0, none⟩, 1), ((1, 65533, []), none, 0), ((2, 7, []), none, 0)] W ha ⟨rfl, rd_block h1 rfl, ?_⟩
  intro d hd
  simp only [List.mem_cons, List.not_mem_nil, or_false] at hd
  rcases hd with rfl | rfl | rfl | rfl
  · exact Rd.nil _ _ _
  · exact rd_block h2 rfl
  · exact Rd.nil _ _ _
  · exact Rd.nil _ _ _
theorem same2 (o1 : Option Addr) (cap1 : Nat) (lb1 : Option Nat) (ds1 : List ActD) (b g : Nat) (W : World) (ho : sl lb1 2 cap1 = .slice o1 2 cap1) (ha : AR W lb1 al2 ds1)
    (h1 : W.heap[b]? = some (.cells #[.int .i64 4, .int .i32 109, .slice (some ⟨g, 0, none⟩) 2 2, .int .i64 3, .int .i32 77, .slice none 0 0] 24 (0, 0)))
    (h2 : W.heap[g]? = some (.cells #[.int .i64 (-1), .int .i64 5] 3 (0, 0))) :
    Calls Try.prog 12 #[.slice o1 2 cap1, .slice (some ⟨b, 0, none⟩) 2 2] W fun e w' => e = .returned (.bool true) ∧ Below W.heap.size W w' := by
  refine sameActs_at al2 2 rfl (by decide) (by intro a h; simp [al2] at h; rcases h with rfl | rfl <;> simp) lb1 (some b) o1 (some ⟨b, 0, none⟩) cap1 2 ho rfl ds1 [((4, 109, [-1, 5]), some ⟨g, 0, none⟩, 2), ((3, 77, []), none, 0)] W ha ⟨rfl, rd_block h1 rfl, ?_⟩
  intro d hd
  simp only [List.mem_cons, List.not_mem_nil, or_false] at hd
  rcases hd with rfl | rfl
  · exact rd_block h2 rfl
  · exact Rd.nil _ _ _
set_option maxHeartbeats 4000000 in
set_option maxRecDepth 100000 in
theorem awake_val (w : World) : Calls Try.prog 13 #[] w fun e w' => e = .returned (.bool true) ∧ Below w.heap.size w w' := by
  have kc := fun (w : World) (C : Array Value) (n c : Nat) => Lib.run_convert_bytes_const (P := Try.prog) w 36 5 C n c Try.underlying36 Try.underlying5
  go_enter Try.func13, Try.ntmps13
  go_upto_region 2 with (go_at_call 11; (with_reducible refine (feed1 _ _ _ ?hr).mono ?_); (case hr => exact rd_block (bs_new rfl) rfl); rintro e w9 ⟨A1, c1, lb1, cap1, o1, ds1, rfl, ho1, ha1, hb9⟩; have HO1 := hide ho1; have HA1 := hide ha1; have hz9 := hb9.size; (try simp at hz9); obtain ⟨hc9, hf9⟩ := be_cells hb9; clear ho1 ha1)
  refine wp_letter (fun W => W.heap[w9.heap.size]? = some (.cells #[.int .i64 0, .int .i64 0, .int .i64 0, .int .i64 0, .slice A1 0 c1, .int .i64 0, .bool false, .bool false] 33 (0, 0)) ∧ AR W lb1 al1 ds1 ∧ Below w.heap.size w W) ⟨?_, ?_, ?_⟩ ?_
  · (apply bs_eq; (case h => (repeat (first | (with_reducible assumption) | (with_reducible apply bs_same) | (with_reducible apply bs_far; case hp => (dsimp only; omega)) | (with_reducible apply bs_drew) | (with_reducible apply bs_drewN) | (with_reducible apply bs_new; (first | (with_reducible rfl) | (simp; done))) | (with_reducible apply bs_alloc) | (with_reducible apply bs_below; (case hb => with_reducible assumption); (case hB => first | omega | (simp; omega) | (simp; done)))))); (case e => rfl))
  · exact HA1.out.below (by (repeat (first | (with_reducible assumption) | with_reducible exact be_refl _ | (with_reducible refine be_set ?_ (by dsimp only; omega)) | (with_reducible apply be_drew) | (with_reducible apply be_drewN) | (with_reducible refine be_alloc ?_ (by first | omega | (simp; omega) | simp)) | (with_reducible refine be_call (by with_reducible assumption) (by first | omega | (simp; omega) | simp) ?_))))
  · (repeat (first | (with_reducible assumption) | with_reducible exact be_refl _ | (with_reducible refine be_set ?_ (by dsimp only; omega)) | (with_reducible apply be_drew) | (with_reducible apply be_drewN) | (with_reducible refine be_alloc ?_ (by first | omega | (simp; omega) | simp)) | (with_reducible refine be_call (by with_reducible assumption) (by first | omega | (simp; omega) | simp) ?_)))
  obtain ⟨G1, hG1⟩ : ∃ G, G = w9.heap.size := ⟨_, rfl⟩
  rw [← hG1]
  clear hG1 HA1 hb9 hc9 hf9 hz9
  rintro M ⟨kG, hA, hB⟩
  have HA := hide hA
  clear hA
  go_upto_region 3 with (go_at_call 11; (with_reducible refine (feed2 _ _ _ ?hr).mono ?_); (case hr => exact rd_block (bs_new rfl) rfl); rintro e w8 ⟨A2, c2, lb2, cap2, o2, ds2, rfl, ho2, ha2, hb8⟩; have HO2 := hide ho2; have HA2 := hide ha2; have hz8 := hb8.size; (try simp at hz8); obtain ⟨hc8, hf8⟩ := be_cells hb8; clear ho2 ha2)
  have sG := bs_lt kG
  refine wp_letter (fun W => W.heap[G1]? = some (.cells #[.int .i64 0, .int .i64 0, .int .i64 0, .int .i64 0, .slice A1 0 c1, .int .i64 0, .bool false, .bool false] 33 (0, 0)) ∧ W.heap[w8.heap.size]? = some (.cells #[.int .i64 0, .int .i64 0, .int .i64 0, .int .i64 0, .slice A2 0 c2, .int .i64 0, .bool false, .bool false] 33 (0, 0)) ∧ AR W lb1 al1 ds1 ∧ AR W lb2 al2 ds2 ∧ Below w.heap.size w W) ⟨?_, ?_, ?_, ?_, ?_⟩ ?_
  · (repeat (first | (with_reducible assumption) | (with_reducible apply bs_same) | (with_reducible apply bs_far; case hp => (dsimp only; omega)) | (with_reducible apply bs_drew) | (with_reducible apply bs_drewN) | (with_reducible apply bs_new; (first | (with_reducible rfl) | (simp; done))) | (with_reducible apply bs_alloc) | (with_reducible apply bs_below; (case hb => with_reducible assumption); (case hB => first | omega | (simp; omega) | (simp; done)))))
  · (apply bs_eq; (case h => (repeat (first | (with_reducible assumption) | (with_reducible apply bs_same) | (with_reducible apply bs_far; case hp => (dsimp only; omega)) | (with_reducible apply bs_drew) | (with_reducible apply bs_drewN) | (with_reducible apply bs_new; (first | (with_reducible rfl) | (simp; done))) | (with_reducible apply bs_alloc) | (with_reducible apply bs_below; (case hb => with_reducible assumption); (case hB => first | omega | (simp; omega) | (simp; done)))))); (case e => rfl))
  · exact HA.out.below (by (repeat (first | (with_reducible assumption) | with_reducible exact be_refl _ | (with_reducible refine be_set ?_ (by dsimp only; omega)) | (with_reducible apply be_drew) | (with_reducible apply be_drewN) | (with_reducible refine be_alloc ?_ (by first | omega | (simp; omega) | simp)) | (with_reducible refine be_call (by with_reducible assumption) (by first | omega | (simp; omega) | simp) ?_))))
  · exact HA2.out.below (by (repeat (first | (with_reducible assumption) | with_reducible exact be_refl _ | (with_reducible refine be_set ?_ (by dsimp only; omega)) | (with_reducible apply be_drew) | (with_reducible apply be_drewN) | (with_reducible refine be_alloc ?_ (by first | omega | (simp; omega) | simp)) | (with_reducible refine be_call (by with_reducible assumption) (by first | omega | (simp; omega) | simp) ?_))))
  · have := hB.size; (repeat (first | (with_reducible assumption) | with_reducible exact be_refl _ | (with_reducible refine be_set ?_ (by dsimp only; omega)) | (with_reducible apply be_drew) | (with_reducible apply be_drewN) | (with_reducible refine be_alloc ?_ (by first | omega | (simp; omega) | simp)) | (with_reducible refine be_call (by with_reducible assumption) (by first | omega | (simp; omega) | simp) ?_)))
  obtain ⟨G2, hG2⟩ : ∃ G, G = w8.heap.size := ⟨_, rfl⟩
  rw [← hG2]
  clear hG2 HA HA2 hb8 hc8 hf8 hz8 kG hB sG
  rintro N ⟨kG, kH, hA1, hA2, hB⟩
  have sG := bs_lt kG
  have sH := bs_lt kH
  have HA1 := hide hA1
  have HA2 := hide hA2
  obtain ⟨x0, x1, x2, x3, x4, x5, x6, x7, _⟩ := cells8 kG
  obtain ⟨y0, y1, y2, y3, y4, y5, y6, y7, _⟩ := cells8 kH
  have hsz := hB.size
  go_wp2_with (first
    | (go_at_call 15; (with_reducible refine (sameEsc_zero _ _ _ _ _).mono ?_); rintro e w7 ⟨rfl, hb7⟩; have hz7 := hb7.size; (try simp at hz7); obtain ⟨hc7, hf7⟩ := be_cells hb7; have q1 : G1 < w7.heap.size := (by omega); have q2 : G2 < w7.heap.size := (by omega))
    | (go_at_call 12; (with_reducible refine (same1 o1 cap1 lb1 ds1 _ w7.heap.size _ HO1.out ?ha ?h1 ?h2).mono ?_); (case h1 => (repeat (first | (with_reducible assumption) | (with_reducible apply bs_same) | (with_reducible apply bs_far; case hp => (dsimp only; omega)) | (with_reducible apply bs_drew) | (with_reducible apply bs_drewN) | (with_reducible apply bs_new; (first | (with_reducible rfl) | (simp; done))) | (with_reducible apply bs_alloc) | (with_reducible apply bs_below; (case hb => with_reducible assumption); (case hB => first | omega | (simp; omega) | (simp; done)))))); (case ha => exact HA1.out.below (by (repeat (first | (with_reducible assumption) | with_reducible exact be_refl _ | (with_reducible refine be_set ?_ (by dsimp only; omega)) | (with_reducible apply be_drew) | (with_reducible apply be_drewN) | (with_reducible refine be_alloc ?_ (by first | omega | (simp; omega) | simp)) | (with_reducible refine be_call (by with_reducible assumption) (by first | omega | (simp; omega) | simp) ?_))))); (case h2 => (repeat (first | (with_reducible assumption) | (with_reducible apply bs_same) | (with_reducible apply bs_far; case hp => (dsimp only; omega)) | (with_reducible apply bs_drew) | (with_reducible apply bs_drewN) | (with_reducible apply bs_new; (first | (with_reducible rfl) | (simp; done))) | (with_reducible apply bs_alloc) | (with_reducible apply bs_below; (case hb => with_reducible assumption); (case hB => first | omega | (simp; omega) | (simp; done)))))); rintro e w6 ⟨rfl, hb6⟩; have hz6 := hb6.size; (try simp at hz6); obtain ⟨hc6, hf6⟩ := be_cells hb6; have hg1 := (fun o => hc6 G1 o (by simp; omega)); have hg2 := (fun o => hc6 G2 o (by simp; omega)); have q1 : G1 < w6.heap.size := (by omega); have q2 : G2 < w6.heap.size := (by omega))
    | (go_at_call 12; (with_reducible refine (same2 o2 cap2 lb2 ds2 _ w7.heap.size _ HO2.out ?ha ?h1 ?h2).mono ?_); (case h1 => (repeat (first | (with_reducible assumption) | (with_reducible apply bs_same) | (with_reducible apply bs_far; case hp => (dsimp only; omega)) | (with_reducible apply bs_drew) | (with_reducible apply bs_drewN) | (with_reducible apply bs_new; (first | (with_reducible rfl) | (simp; done))) | (with_reducible apply bs_alloc) | (with_reducible apply bs_below; (case hb => with_reducible assumption); (case hB => first | omega | (simp; omega) | (simp; done)))))); (case ha => exact HA2.out.below (by (repeat (first | (with_reducible assumption) | with_reducible exact be_refl _ | (with_reducible refine be_set ?_ (by dsimp only; omega)) | (with_reducible apply be_drew) | (with_reducible apply be_drewN) | (with_reducible refine be_alloc ?_ (by first | omega | (simp; omega) | simp)) | (with_reducible refine be_call (by with_reducible assumption) (by first | omega | (simp; omega) | simp) ?_))))); (case h2 => (repeat (first | (with_reducible assumption) | (with_reducible apply bs_same) | (with_reducible apply bs_far; case hp => (dsimp only; omega)) | (with_reducible apply bs_drew) | (with_reducible apply bs_drewN) | (with_reducible apply bs_new; (first | (with_reducible rfl) | (simp; done))) | (with_reducible apply bs_alloc) | (with_reducible apply bs_below; (case hb => with_reducible assumption); (case hB => first | omega | (simp; omega) | (simp; done)))))); rintro e w6 ⟨rfl, hb6⟩; have hz6 := hb6.size; (try simp at hz6); obtain ⟨hc6, hf6⟩ := be_cells hb6; have hg1 := (fun o => hc6 G1 o (by simp; omega)); have hg2 := (fun o => hc6 G2 o (by simp; omega)); have q1 : G1 < w6.heap.size := (by omega); have q2 : G2 < w6.heap.size := (by omega)))
  go_ret
  exact ⟨rfl, by (repeat (first | (with_reducible assumption) | with_reducible exact be_refl _ | (with_reducible refine be_set ?_ (by dsimp only; omega)) | (with_reducible apply be_drew) | (with_reducible apply be_drewN) | (with_reducible refine be_alloc ?_ (by first | omega | (simp; omega) | simp)) | (with_reducible refine be_call (by with_reducible assumption) (by first | omega | (simp; omega) | simp) ?_)))⟩
end Go.Proofs.Ytiahfgcfgpakiaa.EscaVal


