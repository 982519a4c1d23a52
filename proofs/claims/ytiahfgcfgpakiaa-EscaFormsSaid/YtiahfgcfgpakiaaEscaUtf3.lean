/- What utfd.Step hands back where a rune breaks off: a contract, for every byte that ends it. -/
import Derived.Test.YtiahfgcfgpakiaaEscaUtf2
namespace Go.Proofs.Ytiahfgcfgpakiaa.EscaVal
open Go Go.RowKit Go.Proofs.YtiahfgcfgpakiaaKit Go.Proofs.Ytiahfgcfgpakiaa.Mem Go.Proofs.YtiahfgcfgpakiaaW.PrintWords Go.Proofs.YtiahfgcfgpakiaaW.PrintLast Go.Proofs.Ytiahfgcfgpakiaa.Split
set_option linter.unusedVariables false
set_option linter.unusedSimpArgs false
/-- The worlds of the last region: the result's cells, the next one's, the runes that are handed on. -/
structure UJ (w : World) (G : Nat) (gc rc : Array Value) (lb : Option Nat) (n cap : Nat) (xs : List Value) (W : World) : Prop where
  res : W.heap[w.heap.size + 1]? = some (.cells rc 31 (0, 0))
  nxt : W.heap[G]? = some (.cells gc 31 (0, 0))
  ge : w.heap.size + 2 ≤ G
  own : Own W (w.heap.size + 2) 21 1 lb n cap xs
  be : Below w.heap.size w W
theorem UJ.alloc {w W : World} {G : Nat} {gc rc : Array Value} {lb : Option Nat} {n cap : Nat} {xs : List Value} (h : UJ w G gc rc lb n cap xs W) (o : Obj) : UJ w G gc rc lb n cap xs (W.alloc o) :=
  ⟨bs_alloc h.res, bs_alloc h.nxt, h.ge, h.own.alloc o, be_alloc h.be (by have := bs_lt h.res; omega)⟩
theorem UJ.drew {w W : World} {G : Nat} {gc rc : Array Value} {lb : Option Nat} {n cap : Nat} {xs : List Value} (h : UJ w G gc rc lb n cap xs W) : UJ w G gc rc lb n cap xs W.drew :=
  ⟨bs_drew h.res, bs_drew h.nxt, h.ge, h.own.drew, be_drew h.be⟩
theorem UJ.store {w W : World} {G : Nat} {gc : Array Value} {x y z a b c : Value} {lb : Option Nat} {n cap : Nat} {xs : List Value} (h : UJ w G gc #[x, y, z] lb n cap xs W) :
    UJ w G gc #[a, b, c] lb n cap xs (((W.setCell ⟨w.heap.size + 1, 0, none⟩ a).setCell ⟨w.heap.size + 1, 1, none⟩ b).setCell ⟨w.heap.size + 1, 2, none⟩ c) := by
  have hG := h.ge
  have hk := h.res
  have hg := h.nxt
  refine ⟨?_, ?_, h.ge, ?_, ?_⟩
  · (apply bs_eq; (case h => (repeat (first | (with_reducible assumption) | (with_reducible apply bs_same) | (with_reducible apply bs_far; case hp => (dsimp only; omega)) | (with_reducible apply bs_drew) | (with_reducible apply bs_drewN) | (with_reducible apply bs_new; (first | (with_reducible rfl) | (simp; done))) | (with_reducible apply bs_alloc) | (with_reducible apply bs_below; (case hb => with_reducible assumption); (case hB => first | omega | (simp; omega) | (simp; done)))))); (case e => rfl))
  · repeat (with_reducible apply bs_far; case hp => (dsimp only; omega))
    exact hg
  · refine Own.far (Own.far (Own.far h.own ?_ _) ?_ _) ?_ _
    all_goals
      intro b e
      subst e
      have := (own_base h.own).1
      dsimp only
      omega
  · exact be_set (be_set (be_set h.be (by dsimp only; omega)) (by dsimp only; omega)) (by dsimp only; omega)
theorem UJ.grown {w W W' : World} {G : Nat} {gc rc : Array Value} {lb : Option Nat} {n cap : Nat} {xs : List Value} {b : Nat} (h : UJ w G gc rc lb n cap xs W) (hg : W.grownBy W' (some b)) (hb : w.heap.size + 2 ≤ b) (hG : b ≠ G) (hl : some b ≠ lb) : UJ w G gc rc lb n cap xs W' :=
  ⟨(hg.block _ (bs_lt h.res) (fun e => by cases e; omega)).trans h.res, (hg.block _ (bs_lt h.nxt) (fun e => by cases e; exact hG rfl)).trans h.nxt, h.ge, h.own.grown hg (fun k e e2 => by subst e; exact hl e2.symm), below_grown h.be (by have := bs_lt h.res; omega) hg (fun k e => by cases e; omega)⟩
set_option maxHeartbeats 2000000 in
theorem utf_new (n1 n2 n3 : Int) (b : Int) (w : World) (h0 : 0 ≤ b) (h1 : b ≤ 255) (g : 0 < n1) (g1 : b < 128 ∨ 191 < b) : Calls Try.prog 32 #[.agg #[.int .i64 n1, .int .i64 n2, .int .i64 n3], .int .u8 b] w (UtfOut w (utfP n1 n2 n3 b)) := by
  rw [show utfP n1 n2 n3 b = ((beginP b).1, 65533 :: (beginP b).2) by unfold utfP; rw [if_neg (by omega), if_pos g1]]
  have p1 : (n1 ≤ 0) = False := eq_false (by omega)
  obtain ⟨i0, hi, hz0, hz1, hz2⟩ := info_parts (show (Try.prog.info? 21).map (fun i => (i.zero, i.size, i.bytes)) = some (some (.int .i32 0), 1, 4) by kernel_rfl)
  have hlen := begin_len b
  obtain ⟨u, hu⟩ : ∃ u, u = beginP b := ⟨_, rfl⟩
  have BV := fun W => hide (begin_val b h0 h1 W)
  rw [← hu] at BV hlen ⊢
  have hx : (b < 128) = True ∨ ((b < 128) = False ∧ (191 < b) = True) := by
    by_cases h : b < 128
    · exact .inl (eq_true h)
    · exact .inr ⟨eq_false h, eq_true (by omega)⟩
  obtain ⟨⟨u1, u2, u3⟩, us⟩ := u
  dsimp only at BV hlen ⊢
  clear g hu g1
  have HL := hide hlen
  clear hlen
  rcases hx with p2 | ⟨p2, p3⟩
  all_goals
    go_enter Try.func32, Try.ntmps32
    go_upto_region 5 with (go_at_call 34; (with_reducible refine (BV _).out.mono ?_); rintro e w9 ⟨v, rfl, ⟨lb, cap, hv, hO⟩, hb9⟩; obtain ⟨oa, hoa⟩ := sl_to lb us.length cap; have HOA := hide hoa; have HV := hide (hv.trans hoa); have HO := hide hO; have hz9 := hb9.size; (try simp at hz9); obtain ⟨hc9, hf9⟩ := be_cells hb9; have z9 : w.heap.size < w9.heap.size := (by omega); have y9 : w.heap.size + 1 < w9.heap.size := (by omega); clear hv hO hoa)
    have hUJ : ∀ W : World, W.heap[w.heap.size + 1]? = some (.cells #[.int .i64 0, .int .i64 0, .int .i64 0] 31 (0, 0)) → W.heap[w9.heap.size]? = some (.cells #[.int .i64 u1, .int .i64 u2, .int .i64 u3] 31 (0, 0)) → Below w9.heap.size w9 W → Below w.heap.size w W → UJ w w9.heap.size #[.int .i64 u1, .int .i64 u2, .int .i64 u3] #[.int .i64 0, .int .i64 0, .int .i64 0] lb us.length cap (us.map (.int .i32)) W := fun W a1 a2 a3 a4 =>
      ⟨a1, a2, by omega, by have h := HO.out; simp at h; exact (h.below a3), a4⟩
    refine wp_letter (UJ w w9.heap.size #[.int .i64 u1, .int .i64 u2, .int .i64 u3] #[.int .i64 0, .int .i64 0, .int .i64 0] lb us.length cap (us.map (.int .i32))) (hUJ _ ?_ ?_ ?_ ?_) ?_
    · (repeat (first | (with_reducible assumption) | (with_reducible apply bs_same) | (with_reducible apply bs_far; case hp => (dsimp only; omega)) | (with_reducible apply bs_drew) | (with_reducible apply bs_drewN) | (with_reducible apply bs_new; (first | (with_reducible rfl) | (simp; done))) | (with_reducible apply bs_alloc) | (with_reducible apply bs_below; (case hb => with_reducible assumption); (case hB => first | omega | (simp; omega) | (simp; done)))))
    · (apply bs_eq; (case h => (repeat (first | (with_reducible assumption) | (with_reducible apply bs_same) | (with_reducible apply bs_far; case hp => (dsimp only; omega)) | (with_reducible apply bs_drew) | (with_reducible apply bs_drewN) | (with_reducible apply bs_new; (first | (with_reducible rfl) | (simp; done))) | (with_reducible apply bs_alloc) | (with_reducible apply bs_below; (case hb => with_reducible assumption); (case hB => first | omega | (simp; omega) | (simp; done)))))); (case e => rfl))
    · (repeat (first | (with_reducible assumption) | with_reducible exact be_refl _ | (with_reducible refine be_set ?_ (by dsimp only; omega)) | (with_reducible apply be_drew) | (with_reducible apply be_drewN) | (with_reducible refine be_alloc ?_ (by first | omega | (simp; omega) | simp)) | (with_reducible refine be_call (by with_reducible assumption) (by first | omega | (simp; omega) | simp) ?_)))
    · (repeat (first | (with_reducible assumption) | with_reducible exact be_refl _ | (with_reducible refine be_set ?_ (by dsimp only; omega)) | (with_reducible apply be_drew) | (with_reducible apply be_drewN) | (with_reducible refine be_alloc ?_ (by first | omega | (simp; omega) | simp)) | (with_reducible refine be_call (by with_reducible assumption) (by first | omega | (simp; omega) | simp) ?_)))
    clear hUJ BV
    intro M hM
    rw [HV.out]
    obtain ⟨G, hG⟩ : ∃ G, G = w9.heap.size := ⟨_, rfl⟩
    rw [← hG] at hM ⊢
    refine wp_region_held (S := fun W' => W'.heap[G]? = some (.cells #[.int .i64 u1, .int .i64 u2, .int .i64 u3] 31 (0, 0))) (by kernel_rfl) ?_
    have JC := hide (bs_drew hM.nxt)
    change wpAnyH _ _ _ _ _ _ _ _ M.drew
    have hM := hM.drew
    clear HO hz9 hc9 hf9 z9 y9 hb9 hG
    generalize M.drew = W0 at *
    refine take_ (i := 0) (v := ?_) rfl (by kernel_rfl) (by kernel_rfl) (by kernel_rfl) (fun _ _ _ h => h) (Or.inl ⟨by rfl, ?_⟩) JC.out ?_
    rotate_left
    · (intro w5 hSw; obtain ⟨k0, k1, k2, _⟩ := cells3 hSw; go_simp; try (with_reducible rfl))
    try simp only [Act.put, List.setIfInBounds_toArray, List.set_cons_zero, List.set_cons_succ]
    refine take_ (i := 2) (v := ?_) rfl (by kernel_rfl) (by kernel_rfl) (by kernel_rfl) (fun _ _ _ h => h) (Or.inl ⟨by rfl, ?_⟩) JC.out ?_
    rotate_left
    · (intro w5 hSw; obtain ⟨k0, k1, k2, _⟩ := cells3 hSw; go_simp; try (with_reducible rfl))
    try simp only [Act.put, List.setIfInBounds_toArray, List.set_cons_zero, List.set_cons_succ]
    refine wpAnyH_ready (rs := [1]) (by kernel_rfl) (by simp) ?_
    refine cons_ rfl (fun K hK => ?_) nil_
    · obtain ⟨b2, hb2⟩ : ∃ b2, b2 = W0.heap.size := ⟨_, rfl⟩
      have hGb : G < b2 := by rw [hb2]; exact bs_lt hM.nxt
      have hlb : some b2 ≠ lb := fun e => by have := own_base (by rw [← e] at hM; exact hM.own); omega
      go_simp
      refine hK.out _ _ (bs_alloc hM.nxt) (fun _ => ?_)
      try simp only [Act.put, List.setIfInBounds_toArray, List.set_cons_zero, List.set_cons_succ]
      rw [← hb2]
      have hrow : Own (W0.alloc (.cells #[.int .i32 65533] 21)) (G + 1) 21 1 (some b2) 1 1 [.int .i32 65533] := Own.lit (bs_new (by rw [hb2])) rfl (by omega) (by unfold maxLen; omega)
      refine letter_ (fun W => UJ w G #[.int .i64 u1, .int .i64 u2, .int .i64 u3] #[.int .i64 0, .int .i64 0, .int .i64 0] lb us.length cap (us.map (.int .i32)) W ∧ Own W (G + 1) 21 1 (some b2) 1 1 [.int .i32 65533]) ⟨hM.alloc _, hrow⟩ ?_
      clear hb2 hM hrow hK
      rintro W0 ⟨hM, hrow⟩
      refine wpAnyH_ready (rs := [3]) (by kernel_rfl) (by simp) ?_
      refine cons_ rfl (fun K hK => ?_) nil_
      · have hrd : Rd W0 0 oa (us.map (.int .i32)) := by have h := HOA.out; simp [sl] at h; rw [← h]; exact (Rd.of hM.own).lower (Nat.zero_le _)
        refine step_append_rd _ (by rfl) (.tmp 27) (.tmp 28) 60 (by rfl) (G + 1) 21 i0 _ 1 4 Try.underlying60 hi hz0 hz1 hz2 rfl (by omega) (some b2) 1 1 [.int .i32 65533] (by rfl) hrow oa us.length cap (us.map (.int .i32)) (by rfl) (by simp) hrd (by intro u hu; obtain ⟨x, _, rfl⟩ := List.mem_map.1 hu; rfl) (by have := HL.out; unfold maxLen; omega) (by have := HL.out; omega) (by have := (own_base hrow).2; omega) ?_
        intro lb2 cap2 W5 hrow2 hgrow hat
        have hM5 := hM.grown hgrow (by have := hM.ge; omega) (by omega) hlb
        refine hK.out _ _ hM5.nxt (fun _ => ?_)
        try simp only [Act.put, List.setIfInBounds_toArray, List.set_cons_zero, List.set_cons_succ]
        obtain ⟨o2, ho2⟩ := sl_to lb2 (1 + us.length) cap2
        have HO2 := hide ho2
        refine letter_ (fun W => UJ w G #[.int .i64 u1, .int .i64 u2, .int .i64 u3] #[.int .i64 0, .int .i64 0, .int .i64 0] lb us.length cap (us.map (.int .i32)) W ∧ Own W (G + 1) 21 1 lb2 (1 + us.length) cap2 ([.int .i32 65533] ++ us.map (.int .i32))) ⟨hM5, hrow2⟩ ?_
        clear hM hrow hrd hgrow hat hrow2 hM5 hK ho2
        rintro W0 ⟨hM, hrow⟩
        have JC := hide hM.nxt
        refine wpAnyH_ready (rs := [4]) (by kernel_rfl) (by simp) ?_
        refine cons_ rfl (fun K hK => ?_) nil_
        · obtain ⟨y0, y1, y2, f⟩ := cells3 hM.res
          go_simp
          refine hK.out _ _ hM.store.nxt (fun _ => ?_)
          try simp only [Act.put, List.setIfInBounds_toArray, List.set_cons_zero, List.set_cons_succ]
          refine letter_ (fun W => UJ w G #[.int .i64 u1, .int .i64 u2, .int .i64 u3] #[.int .i64 u1, .int .i64 u2, .int .i64 u3] lb us.length cap (us.map (.int .i32)) W ∧ Own W (G + 1) 21 1 lb2 (1 + us.length) cap2 ([.int .i32 65533] ++ us.map (.int .i32))) ⟨hM.store, Own.far (Own.far (Own.far hrow ?_ _) ?_ _) ?_ _⟩ ?_
          rotate_right
          all_goals try (intro k e; (first | subst e | cases e); have := (own_base hrow).1; have := hM.ge; dsimp only; omega)
          rintro W0 ⟨hM, hrow⟩
          have JC := hide hM.nxt
          refine take_ (i := 5) (v := ?_) rfl (by kernel_rfl) (by kernel_rfl) (by kernel_rfl) (fun _ _ _ h => h) (Or.inl ⟨by rfl, ?_⟩) JC.out ?_
          rotate_left
          · (intro w5 hSw; skip; go_simp; try (with_reducible rfl))
          try simp only [Act.put, List.setIfInBounds_toArray, List.set_cons_zero, List.set_cons_succ]
          refine wpAnyH_done (by kernel_rfl) ?_ _
          go_wp2
          refine bodyPost_ret (results_ct rfl _ _ (w.heap.size + 1) 31 #[.int .i64 u1, .int .i64 u2, .int .i64 u3] (0, 0) _ rfl hM.res Try.underlying31 rfl (by kernel_rfl)) rfl ?_
          exact ⟨_, rfl, ⟨lb2, cap2, by rw [List.length_cons, Nat.add_comm 1 us.length]; rfl, by have h := hrow.lower (base' := w.heap.size) (by have := hM.ge; omega); rw [List.length_cons, Nat.add_comm us.length 1]; exact h⟩, hM.be⟩
end Go.Proofs.Ytiahfgcfgpakiaa.EscaVal


