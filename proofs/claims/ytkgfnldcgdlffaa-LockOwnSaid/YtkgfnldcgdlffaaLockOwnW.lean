/- LockOwn: who reads is told in a row of its own; turned, the lock is not: for every row of readers the law returns true: without a condition. -/
import Derived.Test.YtkgfnldcgdlffaaWWords
import Derived.Test.YtkgfnldcgdlffaaWLast
import Derived.Test.YtkgfnldcgdlffaaLockStep
import Derived.Deep.RegionHeld
import Derived.Deep.RegionHeld3
import Derived.Deep.DrawnRows
namespace Go.Proofs.Ytkgfnldcgdlffaa.LockOwnW
open Go Go.RowKit Go.Maps Go.Proofs.YtkgfnldcgdlffaaKit Go.Proofs.Ytkgfnldcgdlffaa.Mem Go.Proofs.Ytkgfnldcgdlffaa.LockKeys Go.Proofs.Ytkgfnldcgdlffaa.LockBase Go.Proofs.Ytkgfnldcgdlffaa.LockAwake Go.Proofs.Ytkgfnldcgdlffaa.LockStep Go.Proofs.YtkgfnldcgdlffaaW.PrintWords Go.Proofs.YtkgfnldcgdlffaaW.PrintLast
set_option linter.unusedVariables false
set_option linter.unusedSimpArgs false
theorem sread_none (xs : List Int) (k : Int) (hu : Up xs) : (sRead (none, xs) k).2 = (none, ins k xs) := by
  unfold sRead
  by_cases h : k ∈ xs
  · simp [h, ins_mem hu h]
  · simp [h]
/-- The lock, and the law's own set of the same numbers. -/
structure LS (w W : World) (g B M : Nat) (xs : List Int) : Prop where
  l : Lk w W g B none xs
  m : MI W 4 (.bool true) M xs
  ne : M ≠ g ∧ M ≠ B
  ge : w.heap.size ≤ M
theorem LS.then_ {w W W' : World} {g B M : Nat} {xs : List Int} (h : LS w W g B M xs) (hb : Below W.heap.size W W') : LS w W' g B M xs := ⟨h.l.then_ hb, h.m.keep (hb.block M h.m.lt), h.ne, h.ge⟩
theorem own_fz {W : World} {base : Nat} {e : TypeId} {k b n cap : Nat} {xs : List Value} (h : Own W base e k (some b) n cap xs) (i : Nat) : W.frozen? ⟨b, i, none⟩ = false := by
  rcases h.cases with ⟨h1, _⟩ | ⟨b', cur, h1, _, hb, _⟩
  · cases h1
  · cases h1; exact bs_frozen hb i
theorem LS.set {w W : World} {g B M b : Nat} {xs : List Int} (h : LS w W g B M xs) (hg : g < b) (hB : B < b) (hM : M < b) (i : Nat) (v : Value) : LS w (W.setCell ⟨b, i, none⟩ v) g B M xs := by
  have t := Turn.set W b b i v
  have := h.l.ge
  exact ⟨h.l.other t (by omega) (by omega) (by omega) (by omega) (by omega) (by omega), h.m.keep (t.block M h.m.lt (by omega) (by omega)), h.ne, h.ge⟩
theorem look_run {W : World} {M : Nat} {xs : List Int} (h : MI W 4 (.bool true) M xs) {k : Int} (hk : k ∈ xs) : (Instr.lookup 31 (.map (some M)) (.int .i64 k) false).run Try.prog W = .ok (.bool true) W := by
  have hwf := h.wf k hk
  obtain ⟨D, ho, kk⟩ := h
  obtain ⟨v, ps, hrun, hv⟩ := ho.lookup law3 Try.underlying31 (zero4 _) (zd := .lit (.bool false)) (zp := []) (plainElem_bool Try.underlying4 false) (keyOf3 hwf)
  have : v = .bool true := by
    rw [kk.at_ k, if_pos hk] at hv
    cases v <;> simp [plainElem, Try.underlying4] at hv
    simp_all
  rw [this] at hrun
  exact hrun
set_option maxRecDepth 100000 in
set_option maxHeartbeats 8000000 in
theorem walkR (A : Option Addr) (len c : Nat) (z : List Int) (w : World)
    (h1 : (A = none ∧ len = 0 ∧ c = 0 ∧ z = []) ∨ ∃ x, A = some x ∧ len ≤ c ∧ c ≤ maxLen ∧ z.length = c ∧ (∀ i, i < z.length → w.cell? (x.add i) = some (.int .i64 (z.getD i 0))) ∧ ∀ n ∈ z, (Lit.int .i64 n).wf = true) (y1 : len * 8 ≤ 140737488351232) :
    Calls Try.prog 4 #[.slice A len c] w fun e w' => e = .returned (.bool true) ∧ Below w.heap.size w w' := by
  obtain ⟨l, rfl, hr, _, hw2⟩ := ReadsInt.ofRow h1
  clear h1 y1
  obtain ⟨L, hL⟩ : ∃ L, L = l.length := ⟨_, rfl⟩
  have hwf : ∀ i : Nat, i < L → (Lit.int .i64 (rd l i)).wf = true := fun i hi => hw2 _ (by
    have hi2 : i < l.length := by omega
    unfold rd
    rw [show ((i : Int)).toNat = i from by omega, List.getD_eq_getElem?_getD, List.getElem?_eq_getElem hi2]
    exact List.getElem_mem hi2)
  rw [← hL] at hr ⊢
  have R1 := hide hr
  have WF := hide hwf
  clear hr hL hw2 hwf
  have hmm := @run_makeMap Try.prog
  have HN := hide (new_calls w w (Below.refl _ _))
  go_enter Try.func4, Try.ntmps4
  go_wp2_with (first
    | (go_at_call 7; with_reducible refine HN.out.mono ?_; rintro e W1 ⟨g, B, rfl, hl, _, _, _⟩; have L0 := hide hl; clear hl)
    | go_in)
  have hS : LS w (W1.alloc (.map #[] 0)) g B W1.heap.size [] := ⟨L0.out.then_ ((Below.refl _ _).alloc (Nat.le_refl _) _), MI.new _ _ _, ⟨by have := L0.out.lt; omega, by have := L0.out.map.lt; omega⟩, L0.out.below.size⟩
  obtain ⟨M, hM⟩ : ∃ M, M = W1.heap.size := ⟨_, rfl⟩
  rw [← hM] at hS ⊢
  have SS := hide hS
  clear hS hM
  go_loopw [5] (fun v5 wr => ∃ (i : Nat) (xs : List Int), i ≤ 20 ∧ v5 = .int .i64 (i : Int) ∧ LS w wr g B M xs ∧ xs.length ≤ i) (fun v5 _ => (20 - intOf v5).toNat)
  case atStart => exact ⟨0, [], by omega, rfl, SS.out, by simp⟩
  case round =>
    obtain ⟨i, xs, hi, rfl, hS, hl⟩ := hrel
    have S := hide hS
    have HI := hide (And.intro hi hl)
    clear hS hl
    by_cases hgo : i < L ∧ i < 20
    · have p1 : ((i : Int) < (L : Int)) = True := eq_true (by omega)
      have p2 : ((i : Int) < 20) = True := eq_true (by omega)
      obtain ⟨ad, rfl, _⟩ := R1.out.at_ (i : Int) (by omega) (by omega)
      have RC := hide (show ∀ W : World, Below w.heap.size w W → W.cell? (ad.add i) = some (.int .i64 (rd l i)) from fun W hb => by
        obtain ⟨ad', e, hc⟩ := (R1.out.below hb).at_ (i : Int) (by omega) (by omega)
        cases e
        simpa using hc)
      have hwx := WF.out i (by omega)
      obtain ⟨x, hx⟩ : ∃ x, x = rd l i := ⟨_, rfl⟩
      rw [← hx] at RC hwx
      have HX := hide hwx
      have lc := RC.out _ S.out.l.below
      have HG := hide hgo
      have hw : wrap64 ((i : Int) + 1) = ((i + 1 : Nat) : Int) := by unfold wrap64; omega
      have HW := hide hw
      clear hgo hx hw hi hwx
      go_wp2_with (first
        | (go_at_call 8; refine (read_u x HX.out w _ g B (none, xs) S.out.l (by have := HI.out; simp only; omega)).mono ?_; rintro e W2 ⟨rfl, hl, ht⟩; rw [sread_none xs x S.out.l.map.up] at hl; have L2 := hide hl; have M2 := hide (S.out.m.keep (ht.block M S.out.m.lt S.out.ne.1 S.out.ne.2)); have lc2 := RC.out _ L2.out.below; clear hl ht lc)
        | (at_mapUpdate; refine put_law _ rfl _ _ _ 31 rfl Try.underlying31 M2.out rfl x HX.out rfl (.bool true) rfl (plainElem_bool Try.underlying4 true) (by have := HI.out; omega) ?_; intro W3 hm hg; have S3 := hide (show LS w W3 g B M (ins x xs) from ⟨lk_other L2.out hg S.out.ge S.out.ne, hm, S.out.ne, S.out.ge⟩); clear hm hg lc2)
        | go_in)
      refine ⟨⟨i + 1, ins x xs, by have := HG.out; omega, by rw [HW.out], S3.out, by have := len_ins_le x xs; have := HI.out; omega⟩, ?_⟩
      rw [HW.out]; simp only [intOf]; have := HG.out; omega
    · have hcase : (((i : Int) < (L : Int)) = False) ∨ (((i : Int) < (L : Int)) = True ∧ ((i : Int) < 20) = False) := by
        by_cases q : (i : Int) < (L : Int)
        · exact .inr ⟨eq_true q, eq_false (fun q2 => hgo ⟨by omega, by omega⟩)⟩
        · exact .inl (eq_false q)
      obtain ⟨n, hn⟩ : ∃ n, xs.length = n := ⟨_, rfl⟩
      obtain ⟨bs, hbs⟩ : ∃ bs, wr.heap.size = bs := ⟨_, rfl⟩
      have HBS := hide hbs
      have HNN := hide hn
      have HXL := hide (show n ≤ 20 by have := HI.out; omega)
      clear hgo hn hbs
      rcases hcase with p1 | ⟨p1, p2⟩
      all_goals
        go_upto_region 12 with (first
          | (go_at_call 10; refine (readers_p n w _ g B none xs S.out.l (by have := HI.out; omega) HNN.out).mono ?_; rintro e W4 ⟨lb, cap, rfl, ho, hb⟩; have BS := hide (And.intro S.out.l.lt (And.intro S.out.l.map.lt S.out.m.lt)); obtain ⟨q, hq⟩ : ∃ q, sl lb n cap = .slice q n cap := sl_to lb n cap; have HQ := hide hq; rw [hq]; have S4 := hide (S.out.then_ hb); have O4 := hide ho; clear ho hb hq S)
          | go_in)
        rw [HBS.out] at O4 BS
        go_loopw [39] (fun v39 wr2 => ∃ (k : Nat) (ys : List Int), k ≤ n ∧ v39 = .int .i64 (k : Int) ∧ LS w wr2 g B M xs ∧ Own wr2 bs 3 1 lb n cap (ys.map (.int .i64)) ∧ ys.length = n) (fun v39 _ => (n - intOf v39).toNat)
        case atStart => exact ⟨0, xs, by omega, rfl, S4.out, O4.out, HNN.out⟩
        case round =>
          obtain ⟨k, ys, hk, rfl, hS, hO, hy⟩ := hrel
          have S5 := hide hS
          have O5 := hide hO
          have HY := hide hy
          clear hS hO hy
          by_cases qk : k < n
          · have q1 : ((k : Int) < (n : Int)) = True := eq_true (by omega)
            obtain ⟨y, hyk⟩ : ∃ y, ys[k]? = some y := ⟨_, List.getElem?_eq_getElem (by have := HY.out; omega)⟩
            obtain ⟨b, rfl, hb1, hb2, hc⟩ := Own.cell O5.out k (.int .i64 y) (by rw [List.getElem?_map, hyk]; rfl)
            obtain rfl : q = some ⟨b, 0, none⟩ := by have h := HQ.out; rw [sl_some] at h; injection h with e; exact e.symm
            have fz := own_fz O5.out k
            have hw : wrap64 ((k : Int) + 1) = ((k + 1 : Nat) : Int) := by have := HXL.out; unfold wrap64; omega
            have HW := hide hw
            have HK := hide qk
            have HB2 := hide (And.intro hb1 hb2)
            clear qk hw hk hb1 hb2 hyk
            go_wp2
            refine ⟨⟨k + 1, ys.set k (wrap64 (y + 1)), HK.out, by rw [HW.out], S5.out.set (by have := BS.out; have := HB2.out; omega) (by have := BS.out; have := HB2.out; omega) (by have := BS.out; have := HB2.out; omega) k _, by rw [List.map_set]; exact O5.out.set _, by rw [List.length_set]; exact HY.out⟩, ?_⟩
            rw [HW.out]; simp only [intOf]; have := HK.out; omega
          · have q1 : ((k : Int) < (n : Int)) = False := eq_false (by omega)
            clear qk hk
            go_upto_region 18 with (first
              | (go_at_call 10; refine (readers_p n w _ g B none xs S5.out.l (by have := HXL.out; have := HNN.out; omega) HNN.out).mono ?_; rintro e W6 ⟨lb6, cap6, rfl, ho, hb⟩; obtain ⟨q6, hq6⟩ : ∃ q, sl lb6 n cap6 = .slice q n cap6 := sl_to lb6 n cap6; have HQ6 := hide hq6; rw [hq6]; have S6 := hide (S5.out.then_ hb); have O6 := hide ho; clear ho hb hq6 S5)
              | go_in)
            go_loopw [53] (fun v53 wr3 => ∃ (k : Nat), k ≤ n ∧ v53 = .int .i64 (k : Int) ∧ LS w wr3 g B M xs ∧ Own wr3 0 3 1 lb6 n cap6 (xs.map (.int .i64))) (fun v53 _ => (n - intOf v53).toNat)
            case atStart => exact ⟨0, by omega, rfl, S6.out, O6.out.lower (Nat.zero_le _)⟩
            case round =>
              obtain ⟨k, hk, rfl, hS, hO⟩ := hrel
              have S7 := hide hS
              have O7 := hide hO
              clear hS hO
              by_cases qk : k < n
              · have q1 : ((k : Int) < (n : Int)) = True := eq_true (by omega)
                obtain ⟨y, hyk⟩ : ∃ y, xs[k]? = some y := ⟨_, List.getElem?_eq_getElem (by have := HNN.out; omega)⟩
                obtain ⟨b, rfl, hb1, hb2, hc⟩ := Own.cell O7.out k (.int .i64 y) (by rw [List.getElem?_map, hyk]; rfl)
                obtain rfl : q6 = some ⟨b, 0, none⟩ := by have h := HQ6.out; rw [sl_some] at h; injection h with e; exact e.symm
                have hlook := look_run (S7.out.then_ (be_drew (be_refl _))).m (List.mem_of_getElem? hyk)
                have HW := hide (show wrap64 ((k : Int) + 1) = ((k + 1 : Nat) : Int) by have := HXL.out; unfold wrap64; omega)
                have HK := hide qk
                rcases Nat.eq_zero_or_pos k with rfl | hk0
                · clear qk hk hb1 hb2 hyk
                  go_wp2
                  go_region
                  go_wp2
                  refine ⟨⟨1, HK.out, rfl, S7.out.then_ (be_drew (be_refl _)), O7.out.drew⟩, ?_⟩
                  simp only [intOf]; have := HK.out; omega
                · obtain ⟨j, hj⟩ : ∃ j, k = j + 1 := ⟨k - 1, by omega⟩
                  obtain ⟨y0, hy0⟩ : ∃ y0, xs[j]? = some y0 := ⟨_, List.getElem?_eq_getElem (by have := HNN.out; omega)⟩
                  obtain ⟨b', hbb, _, _, hc0⟩ := Own.cell O7.out j (.int .i64 y0) (by rw [List.getElem?_map, hy0]; rfl)
                  obtain rfl : b = b' := by injection hbb
                  have hlt : y0 < y := by
                    have hu := S7.out.l.map.up
                    obtain ⟨h1a, h1b⟩ := List.getElem?_eq_some_iff.1 hy0
                    obtain ⟨h2a, h2b⟩ := List.getElem?_eq_some_iff.1 hyk
                    have := (List.pairwise_iff_getElem.1 hu) j k h1a h2a (by omega)
                    rw [h1b, h2b] at this; exact this
                  have p5 : (y ≤ y0) = False := eq_false (by omega)
                  have p6 : ((0 : Int) < (k : Int)) = True := eq_true (by omega)
                  have p7 : (0 < k) = True := eq_true (by omega)
                  have HWJ := hide (show IntKind.i64.wrap ((k : Int) - 1) = (j : Int) by have := HXL.out; rw [IntKind.wrap_i64]; omega)
                  have p9 : ((j : Int) < (n : Int)) = True := eq_true (by omega)
                  have p10 : (j < n) = True := eq_true (by omega)
                  clear qk hk hb1 hb2 hyk hy0 hlt hbb hk0 hj
                  have hwj := HWJ.out
                  go_wp2
                  (first
                    | (go_region_held3 (fun w' => w'.cell? ⟨b, k, none⟩ = some (.int .i64 y) ∧ w'.cell? ⟨b, j, none⟩ = some (.int .i64 y0) ∧ (Instr.lookup 31 (.map (some M)) (.int .i64 y) false).run Try.prog w' = .ok (.bool true) w') ((first | (with_reducible exact ⟨hc, hc0, hlook⟩) | go_keep)) (fail))
                    | fail "region")
                  clear hwj
                  go_wp2
                  refine ⟨⟨k + 1, HK.out, by rw [HW.out], S7.out.then_ (be_drew (be_refl _)), O7.out.drew⟩, ?_⟩
                  rw [HW.out]; simp only [intOf]; have := HK.out; omega
              · have q1 : ((k : Int) < (n : Int)) = False := eq_false (by omega)
                clear qk hk
                go_wp2_with (first
                  | (at_len; refine len_law _ (by rfl) _ 31 rfl Try.underlying31 S7.out.m rfl n (by rw [HNN.out]) ?_)
                  | (go_at_call 13; refine (awake_calls _).mono ?_; rintro e W2 ⟨rfl, hb⟩; have M10 := hide (S7.out.l.below.trans (hb.mono S7.out.l.below.size)); clear hb)
                  | go_in)
                go_ret
                exact ⟨rfl, M10.out⟩
end Go.Proofs.Ytkgfnldcgdlffaa.LockOwnW


