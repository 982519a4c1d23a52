/- HistPlays: calls, stamps and replies are written down in order; each op has one place; one stands before another just if it was replied ahead of that one's call: for every script, without a condition. -/
import Derived.Test.YtkdfdcppeolbjaaHistPlaysM
import Derived.Test.YtkdfdcppeolbjaaWWords
import Derived.Test.YtkdfdcppeolbjaaWLast
namespace Go.Proofs.Ytkdfdcppeolbjaa.HistPlaysW
open Go Go.RowKit Go.Maps Go.Proofs.YtkdfdcppeolbjaaKit Go.Proofs.Ytkdfdcppeolbjaa.Mem Go.Proofs.Ytkdfdcppeolbjaa.HistBase Go.Proofs.Ytkdfdcppeolbjaa.HistStill Go.Proofs.Ytkdfdcppeolbjaa.HistOps Go.Proofs.Ytkdfdcppeolbjaa.HistRead Go.Proofs.Ytkdfdcppeolbjaa.HistFirst Go.Proofs.Ytkdfdcppeolbjaa.HistStamp Go.Proofs.Ytkdfdcppeolbjaa.HistAwake Go.Proofs.Ytkdfdcppeolbjaa.HistBef Go.Proofs.Ytkdfdcppeolbjaa.HistPlaysM
open Go.Proofs.YtkdfdcppeolbjaaW.PrintWords (ReadsInt rd ReadsInt.ofRow)
attribute [local go_sem] cell_alloc_some cell_alloc2_some cell_alloc3_some cell_alloc4_some
set_option linter.unusedVariables false
set_option linter.unusedSimpArgs false
theorem and3 (n : Int) : ∃ K : Nat, Go.bits .and .i64 n 3 = (K : Int) ∧ K ≤ 3 := by
  have h : 0 ≤ Go.bits .and .i64 n 3 ∧ Go.bits .and .i64 n 3 ≤ 3 := and_range 2 (by omega) n
  exact ⟨(Go.bits .and .i64 n 3).toNat, by omega, by omega⟩
theorem wf3 (n : Int) : wfI (Go.bits .and .i64 n 3) := by
  have h : 0 ≤ Go.bits .and .i64 n 3 ∧ Go.bits .and .i64 n 3 ≤ 3 := and_range 2 (by omega) n
  exact wf_of (by omega) (by omega)
theorem wf1 (n : Int) : wfI (Go.bits .and .i64 n 1) := by
  have h : 0 ≤ Go.bits .and .i64 n 1 ∧ Go.bits .and .i64 n 1 ≤ 1 := and_range 1 (by omega) n
  exact wf_of (by omega) (by omega)
theorem wf_i {x : Int} (h : wfI x) : -9223372036854775808 ≤ x ∧ x ≤ 9223372036854775807 := by
  unfold wfI at h
  simp [Lit.wf, IntKind.min, IntKind.max, IntKind.signed, IntKind.bits] at h
  omega
theorem wf_quo {x : Int} (h : wfI x) : wfI (x / 4) := by
  have := wf_i h
  exact wf_of (by omega) (by omega)
set_option maxHeartbeats 16000000 in
set_option maxRecDepth 100000 in
theorem walkR (A1 : Option Addr) (len1 c1 : Nat) (z1 : List Int) (A2 : Option Addr) (len2 c2 : Nat) (z2 : List Int) (few : Bool) (w : World)
    (h1 : (A1 = none ∧ len1 = 0 ∧ c1 = 0 ∧ z1 = []) ∨ ∃ x, A1 = some x ∧ len1 ≤ c1 ∧ c1 ≤ maxLen ∧ z1.length = c1 ∧ (∀ i, i < z1.length → w.cell? (x.add i) = some (.int .i64 (z1.getD i 0))) ∧ ∀ n ∈ z1, (Lit.int .i64 n).wf = true) (y1 : len1 * 8 ≤ 140737488351232)
    (h2 : (A2 = none ∧ len2 = 0 ∧ c2 = 0 ∧ z2 = []) ∨ ∃ x, A2 = some x ∧ len2 ≤ c2 ∧ c2 ≤ maxLen ∧ z2.length = c2 ∧ (∀ i, i < z2.length → w.cell? (x.add i) = some (.int .i64 (z2.getD i 0))) ∧ ∀ n ∈ z2, (Lit.int .i64 n).wf = true) (y2 : len2 * 8 ≤ 140737488351232) :
    Calls Try.prog 5 #[.slice A1 len1 c1, .slice A2 len2 c2, .bool few] w fun e w' => e = .returned (.bool true) ∧ Below w.heap.size w w' := by
  obtain ⟨l1, rfl, hr1, _, hw1⟩ := ReadsInt.ofRow h1
  obtain ⟨l2, rfl, hr2, _, hw2⟩ := ReadsInt.ofRow h2
  clear h1 y1 h2 y2
  have WF1 := hide (show ∀ i : Nat, i < l1.length → wfI (rd l1 i) from fun i hi => hw1 _ (by unfold rd; rw [List.getD_eq_getElem?_getD]; simp [hi]))
  have WF2 := hide (show ∀ i : Nat, i < l2.length → wfI (rd l2 i) from fun i hi => hw2 _ (by unfold rd; rw [List.getD_eq_getElem?_getD]; simp [hi]))
  obtain ⟨L1, hL1⟩ : ∃ L, L = l1.length := ⟨_, rfl⟩
  obtain ⟨L2, hL2⟩ : ∃ L, L = l2.length := ⟨_, rfl⟩
  rw [← hL1] at hr1 WF1 ⊢
  rw [← hL2] at hr2 WF2 ⊢
  have R1 := hide hr1
  have R2 := hide hr2
  clear hr1 hr2 hL1 hL2 hw1 hw2
  have HN := hide (s_new w)
  obtain ⟨i0, hi0, hz0, hz1, hz2⟩ := info_parts eventInfo
  obtain ⟨i1, hi1, hv0, hv1, hv2⟩ := info_parts spotInfo
  go_enter Try.func5, Try.ntmps5
  go_wp2_with (go_at_call 6; (with_reducible refine HN.out.mono ?_); rintro e W1 ⟨g, rfl, P⟩; have P1 := hide P; clear P)
  go_loopw [8, 9, 10] (fun v8 v9 v10 wr => ∃ (i : Nat) (evs : List Ev) (od : List (Int × Int)) (le : Option Nat) (ce : Nat) (lo : Option Nat) (co : Nat), i ≤ 50 ∧ v8 = sl le evs.length ce ∧ v9 = sl lo od.length co ∧ v10 = .int .i64 (i : Int) ∧ Pl w wr g le ce lo co evs od ∧ evs.length ≤ i ∧ od.length ≤ i) (fun v8 v9 v10 _ => (50 - intOf v10).toNat)
  case atStart => exact ⟨0, [], [], none, 0, none, 0, by omega, rfl, rfl, rfl, ⟨P1.out.sub (fun k hk => by rcases hk with e | e <;> cases e), Own.nil _ _ _ _, Own.nil _ _ _ _, fun j s h => by simp at h⟩, Nat.le_refl _, Nat.le_refl _⟩
  case round =>
    obtain ⟨i, evs, od, le, ce, lo, co, hi, rfl, rfl, rfl, hP, hle, hlo⟩ := hrel
    have P := hide hP
    have LE := hide (And.intro hle hlo)
    clear hP hle hlo P1
    by_cases hgo : i < L1 ∧ i < L2 ∧ i < 50
    · have p1 : ((i : Int) < (L1 : Int)) = True := eq_true (by omega)
      have p2 : ((i : Int) < (L2 : Int)) = True := eq_true (by omega)
      have p3 : ((i : Int) < 50) = True := eq_true (by omega)
      have p1' : (i : Int) < (L1 : Int) := by omega
      have p2' : (i : Int) < (L2 : Int) := by omega
      have p0 : (0 : Int) ≤ (i : Int) := by omega
      obtain ⟨ad1, rfl, _⟩ := R1.out.at_ (i : Int) (by omega) (by omega)
      obtain ⟨ad2, rfl, _⟩ := R2.out.at_ (i : Int) (by omega) (by omega)
      have RC1 := hide (show ∀ W : World, Below w.heap.size w W → W.cell? (ad1.add i) = some (.int .i64 (rd l1 i)) from fun W hb => by
        obtain ⟨ad', e, hc⟩ := (R1.out.below hb).at_ (i : Int) (by omega) (by omega)
        cases e
        simpa using hc)
      have RC2 := hide (show ∀ W : World, Below w.heap.size w W → W.cell? (ad2.add i) = some (.int .i64 (rd l2 i)) from fun W hb => by
        obtain ⟨ad', e, hc⟩ := (R2.out.below hb).at_ (i : Int) (by omega) (by omega)
        cases e
        simpa using hc)
      have lc1 := RC1.out _ P.out.hs.below
      have lc2 := RC2.out _ P.out.hs.below
      have hwx := WF1.out i (by omega)
      have hwy := WF2.out i (by omega)
      obtain ⟨x, hx⟩ : ∃ x, x = rd l1 i := ⟨_, rfl⟩
      obtain ⟨y, hy⟩ : ∃ y, y = rd l2 i := ⟨_, rfl⟩
      rw [← hx] at lc1 hwx RC1
      rw [← hy] at lc2 hwy
      have HXY := hide (And.intro hwx hwy)
      have HG := hide hgo
      have HW := hide (show wrap64 ((i : Int) + 1) = ((i + 1 : Nat) : Int) by unfold wrap64; omega)
      obtain ⟨K, hK, hK3⟩ := and3 x
      clear hgo hx hy hi hwx hwy RC2
      go_upto_region 9 with fail
      go_quiet (fail)
      go_upto_if 49 with fail
      refine wp_letter (fun M => Pl w M g le ce lo co evs od) (P.out.then_ (be_drewN (be_refl _))) ?_
      intro M hM
      have lc1' := RC1.out _ hM.hs.below
      clear P lc1 lc2
      have P := hide hM
      clear hM
      go_cut [11, 12] (fun v11 v12 wx => ∃ t n : Int, v11 = .int .i64 t ∧ v12 = .int .i64 n ∧ wfI t ∧ wfI n ∧ wx = M)
      case first =>
        as_aux_lemma =>
        cases few
        all_goals
          go_wp2
          go_meet
        all_goals first | exact ⟨y, x / 4, rfl, rfl, HXY.out.2, wf_quo HXY.out.1, rfl⟩ | exact ⟨_, _, rfl, rfl, wf3 y, wf1 (x / 4), rfl⟩
      case rest =>
        obtain ⟨t, n, rfl, rfl, ht, hn, rfl⟩ := hcut
        have HT := hide (And.intro ht hn)
        clear ht hn
        go_upto_block 2 with fail
        go_cut [8, 9] (fun v8 v9 wx => ∃ (evs2 : List Ev) (od2 : List (Int × Int)) (le2 : Option Nat) (ce2 : Nat) (lo2 : Option Nat) (co2 : Nat), v8 = sl le2 evs2.length ce2 ∧ v9 = sl lo2 od2.length co2 ∧ Pl w wx g le2 ce2 lo2 co2 evs2 od2 ∧ evs2.length ≤ i + 1 ∧ od2.length ≤ i + 1)
        case first =>
          have hks : K = 0 ∨ K = 1 ∨ (K = 2 ∨ K = 3) := by omega
          clear hK3
          rcases hks with rfl | rfl | hks
          · obtain ⟨q, hq⟩ : ∃ q, evs.length = q := ⟨_, rfl⟩
            rw [hq]
            have HQ := hide hq
            have hq50 : q ≤ 50 := by have := LE.out.1; have := HG.out; omega
            have PE := hide (show Own wc w.heap.size 49 12 le q ce (flatE evs) by rw [← hq]; exact P.out.ev)
            have CA := hide (s_call w wc g evs od _ P.out.hs t n (by have := LE.out.1; have := HG.out; omega))
            clear hq
            go_wp2_with (first
              | (go_at_call 11; (with_reducible refine CA.out.mono ?_); rintro e W2 ⟨rfl, Q, F⟩; have P2 := hide (P.out.step Q F); have HS2 := hide Q.below.size; have HAA : Hid (∀ o, (W2.alloc o).ownsRow w.heap.size 49 12 (sl le q ce) q (flatE evs)) := (fun o => ((PE.out.keep fun b e _ => F b (.inl e.symm)).below (be_alloc (be_refl _) (Nat.le_refl _))).owns); clear Q F)
              | (at_builtin; refine wpList_append_lies _ rfl (.tmp 96) (.tmp 100) 33 rfl w.heap.size 49 i0 _ 12 112 Try.underlying33 hi0 hz0 hz1 hz2 rfl (by omega) (sl le q ce) q _ rfl (HAA.out _) ⟨W2.heap.size, 0, none⟩ 1 1 (evC (t, n, 1, 0)) rfl rfl (World.news_of_block (cs := (evC (t, n, 1, 0)).toArray) (t := 49) (fr := (0, 0)) (heap_alloc_new W2 _)) (by simp [evC, Value.oneCell']) (by omega) (by unfold maxLen; omega) (by omega) (by have := HS2.out; simp; omega) (W2.heap.size + 1) (by simp) ?_; intro gg cap1 w1 hown1 hgrow hat hlt1))
            rw [sl_block] at hgrow hat
            go_meet
            refine ⟨evs ++ [(t, n, 1, 0)], od, some gg, cap1, lo, co, by rw [List.length_append, HQ.out]; rfl, rfl, P2.out.push_ev P.out.ne P.out.nd (be_alloc (be_refl _) (Nat.le_refl _)) hgrow hown1 HQ.out (hat.imp id (fun e => by simp; omega)) hlt1, by rw [List.length_append]; have := LE.out.1; simp; omega, by have := LE.out.2; omega⟩
          · obtain ⟨q, hq⟩ : ∃ q, evs.length = q := ⟨_, rfl⟩
            rw [hq]
            have HQ := hide hq
            have hq50 : q ≤ 50 := by have := LE.out.1; have := HG.out; omega
            have PE := hide (show Own wc w.heap.size 49 12 le q ce (flatE evs) by rw [← hq]; exact P.out.ev)
            have CA := hide (s_reply w wc g evs od _ P.out.hs t n (i : Int) (by have := LE.out.1; have := HG.out; omega))
            clear hq
            go_wp2_with (first
              | (go_at_call 12; (with_reducible refine CA.out.mono ?_); rintro e W2 ⟨rfl, Q, F⟩; have P2 := hide (P.out.step Q F); have HS2 := hide Q.below.size; have HAA : Hid (∀ o, (W2.alloc o).ownsRow w.heap.size 49 12 (sl le q ce) q (flatE evs)) := (fun o => ((PE.out.keep fun b e _ => F b (.inl e.symm)).below (be_alloc (be_refl _) (Nat.le_refl _))).owns); clear Q F)
              | (at_builtin; refine wpList_append_lies _ rfl (.tmp 110) (.tmp 116) 33 rfl w.heap.size 49 i0 _ 12 112 Try.underlying33 hi0 hz0 hz1 hz2 rfl (by omega) (sl le q ce) q _ rfl (HAA.out _) ⟨W2.heap.size, 0, none⟩ 1 1 (evC (t, n, 2, (i : Int))) rfl rfl (World.news_of_block (cs := (evC (t, n, 2, (i : Int))).toArray) (t := 49) (fr := (0, 0)) (heap_alloc_new W2 _)) (by simp [evC, Value.oneCell']) (by omega) (by unfold maxLen; omega) (by omega) (by have := HS2.out; simp; omega) (W2.heap.size + 1) (by simp) ?_; intro gg cap1 w1 hown1 hgrow hat hlt1))
            rw [sl_block] at hgrow hat
            go_meet
            refine ⟨evs ++ [(t, n, 2, (i : Int))], od, some gg, cap1, lo, co, by rw [List.length_append, HQ.out]; rfl, rfl, P2.out.push_ev P.out.ne P.out.nd (be_alloc (be_refl _) (Nat.le_refl _)) hgrow hown1 HQ.out (hat.imp id (fun e => by simp; omega)) hlt1, by rw [List.length_append]; have := LE.out.1; simp; omega, by have := LE.out.2; omega⟩
          · obtain ⟨q, hq⟩ : ∃ q, od.length = q := ⟨_, rfl⟩
            have hq50 : q ≤ 50 := by have := LE.out.2; have := HG.out; omega
            have hlen50 : od.length ≤ 50 := by omega
            obtain ⟨oo, hoo, hsl⟩ := sl_oa lo od.length co
            have hpo : Own wc w.heap.size 28 2 lo od.length co (flatS od) := P.out.ord
            rw [hsl]
            rw [hq] at hsl hpo ⊢
            have HQ := hide hq
            have HOO := hide hoo
            have HSL := hide hsl
            have PO := hide hpo
            have HVB := hide (show (Value.slice oo q co).ownBlock = lo by rw [← hsl]; exact sl_block _ _ _)
            have HAA : Hid (∀ W', Below wc.heap.size wc W' → W'.ownsRow w.heap.size 28 2 (.slice oo q co) q (flatS od)) := fun W' hb => by
              have := (hpo.below hb).owns
              rw [hsl] at this
              exact this
            have HSZ := hide P.out.hs.below.size
            have ST := hide (s_stamp w wc g evs od _ P.out.hs t n HT.out.1 HT.out.2 (by omega))
            clear hq hoo hsl hpo hlen50
            have kk0 : ((K : Int) == 0) = false := by simp; omega
            have kk1 : ((K : Int) == 1) = false := by simp; omega
            have kk2 : ((K : Int) = 0) = False := eq_false (by omega)
            have kk3 : ((K : Int) = 1) = False := eq_false (by omega)
            have kk4 : (K = 0) = False := eq_false (by omega)
            have kk5 : (K = 1) = False := eq_false (by omega)
            clear hks
            go_wp2
            go_loopw [13, 14, 61] (fun v13 v14 v61 wq => ∃ j : Nat, j ≤ q ∧ v61 = .int .i64 (j : Int) ∧ v13 = .int .i64 (foundAt od (t, n) j) ∧ wq = wc) (fun v13 v14 v61 _ => (q - intOf v61).toNat)
            case atStart => exact ⟨0, Nat.zero_le _, rfl, by rw [seen_zero], rfl⟩
            case round =>
              obtain ⟨j, hj, rfl, rfl, rfl⟩ := hrel
              by_cases hjq : j < q
              · as_aux_lemma =>
                have r1 : ((j : Int) < (q : Int)) = True := eq_true (by omega)
                have r1' : (j : Int) < (q : Int) := by omega
                have r0 : (0 : Int) ≤ (j : Int) := by omega
                obtain ⟨s, hs⟩ : ∃ s, od[j]? = some s := ⟨_, List.getElem?_eq_getElem (by have := HQ.out; omega)⟩
                obtain ⟨b, hb, hbl, x0, x1⟩ := sp_cells PO.out hs
                have e1 : oo = some ⟨b, 0, none⟩ := by rw [HOO.out, hb]; rfl
                subst e1
                have HJ := hide hjq
                have hnd := P.out.nd
                by_cases heq : s = (t, n)
                · subst heq
                  have HSE := hide (seen_hit (hnd j _ hs))
                  dsimp only at x0 x1
                  obtain ⟨sv, hsv⟩ : ∃ sv, sv = foundAt od (t, n) j := ⟨_, rfl⟩
                  rw [← hsv]
                  clear hs hjq hj hnd hb hbl hsv
                  go_wp2
                  exact ⟨⟨j + 1, by have := HJ.out; omega, by simp, by rw [HSE.out], by first | rfl | trivial⟩, by simp only [intOf]; have := HJ.out; omega⟩
                · have HSE := hide (seen_miss hs hnd heq)
                  obtain ⟨T, N⟩ := s
                  have hne : (T == t && N == n) = false := by
                    cases h5 : (T == t) with
                    | false => rfl
                    | true =>
                      cases h6 : (N == n) with
                      | false => rfl
                      | true => exact absurd (by rw [eq_of_beq h5, eq_of_beq h6]) heq
                  have hne3 : ¬ (T = t ∧ N = n) := fun h => heq (by rw [h.1, h.2])
                  dsimp only at x0 x1
                  obtain ⟨sv, hsv⟩ : ∃ sv, sv = foundAt od (t, n) j := ⟨_, rfl⟩
                  rw [← hsv] at HSE ⊢
                  clear hs hjq hj hnd hb hbl heq hsv
                  by_cases hT : T = t
                  · have k1 : (T = t) = True := eq_true hT
                    have k1' : (T == t) = true := by simp [hT]
                    have k2 : (N = n) = False := eq_false (fun h => hne3 ⟨hT, h⟩)
                    have k2' : (N == n) = false := by simp; exact fun h => hne3 ⟨hT, h⟩
                    clear hne3 hne hT
                    go_wp2
                    exact ⟨⟨j + 1, by have := HJ.out; omega, by simp, by rw [HSE.out], by first | rfl | trivial⟩, by simp only [intOf]; have := HJ.out; omega⟩
                  · have k1 : (T = t) = False := eq_false hT
                    have k1' : (T == t) = false := by simp [hT]
                    clear hne3 hne hT
                    go_wp2
                    exact ⟨⟨j + 1, by have := HJ.out; omega, by simp, by rw [HSE.out], by first | rfl | trivial⟩, by simp only [intOf]; have := HJ.out; omega⟩
              · have r1 : ((j : Int) < (q : Int)) = False := eq_false (by omega)
                have hjq2 : j = q := by omega
                have hse : foundAt od (t, n) j = (match place od (t, n) with | some k => (k : Int) | none => -1) := by rw [hjq2, ← HQ.out]; exact seen_end od (t, n)
                rw [hse]
                clear hse hjq hj
                cases hp : place od (t, n) with
                | some k =>
                  have hst : stampI od (t, n) = k := by simp [stampI, hp]
                  have hsl : stampL od (t, n) = od := by simp [stampL, hp]
                  rw [hst, hsl] at ST
                  have k0 : ((k : Int) < 0) = False := eq_false (by omega)
                  clear hp hst hsl
                  dsimp only
                  go_wp2_with (go_at_call 7; (with_reducible refine ST.out.mono ?_); rintro e W2 ⟨rfl, Q, F⟩; have P2 := hide (P.out.step Q F); clear Q F)
                  go_meet
                  refine ⟨evs, od, le, ce, lo, co, rfl, by rw [← HSL.out, HQ.out], ⟨P2.out.hs, P2.out.ev, P2.out.ord, P.out.nd⟩, by have := LE.out.1; omega, by have := LE.out.2; omega⟩
                | none =>
                  have hst : stampI od (t, n) = q := by simp [stampI, hp, HQ.out]
                  have hsl : stampL od (t, n) = od ++ [(t, n)] := by simp [stampL, hp]
                  have ST2 := hide (fun W (h : Hs w W g evs od (Xs (some 0) (some 0))) => h)
                  have HPN := hide hp
                  clear hp
                  dsimp only
                  go_wp2_with (first
                    | (at_builtin; refine wpList_append_lies _ rfl (.tmp 78) (.tmp 82) 31 rfl w.heap.size 28 i1 _ 2 16 Try.underlying31 hi1 hv0 hv1 hv2 rfl (by omega) (.slice oo q co) q _ rfl (HAA.out _ (be_alloc (be_refl _) (Nat.le_refl _))) ⟨wr.heap.size, 0, none⟩ 1 1 (spC (t, n)) rfl rfl (World.news_of_block (cs := (spC (t, n)).toArray) (t := 28) (fr := (0, 0)) (heap_alloc_new wr _)) (by simp [spC, Value.oneCell']) (by omega) (by unfold maxLen; omega) (by omega) (by have := HSZ.out; simp; omega) (wr.heap.size + 1) (by simp) ?_; intro gg cap1 w1 hown1 hgrow hat hlt1; rw [HVB.out] at hgrow hat; have PQ := hide (P.out.push_od HPN.out (be_alloc (be_refl _) (Nat.le_refl _)) hgrow hown1 HQ.out (hat.imp id (fun e => by simp; omega)) hlt1); have ND := hide (nd_push P.out.nd HPN.out); clear hgrow hown1 hat hlt1)
                    | (go_at_call 7; (with_reducible refine (s_stamp w _ g evs od _ PQ.out.hs t n HT.out.1 HT.out.2 (by have := HQ.out; omega)).mono ?_); rintro e W2 ⟨rfl, Q, F⟩; rw [hst]; rw [hsl] at Q; have P2 := hide (show Pl w W2 g le ce (some gg) cap1 evs (od ++ [(t, n)]) from ⟨Q, PQ.out.ev.keep (fun b e _ => F b (.inl e.symm)), PQ.out.ord.keep (fun b e _ => F b (.inr e.symm)), ND.out⟩); clear Q F))
                  go_meet
                  refine ⟨evs, od ++ [(t, n)], le, ce, some gg, cap1, rfl, by rw [List.length_append, HQ.out]; rfl, P2.out, by have := LE.out.1; omega, by rw [List.length_append]; have := LE.out.2; simp; omega⟩
        case rest =>
          as_aux_lemma =>
          obtain ⟨evs2, od2, le2, ce2, lo2, co2, rfl, rfl, hP2, hl1, hl2⟩ := hcut
          clear P LE HXY lc1' hK hK3 RC1
          have P := hide hP2
          have LE := hide (And.intro hl1 hl2)
          obtain ⟨q, hq⟩ : ∃ q, evs2.length = q := ⟨_, rfl⟩
          obtain ⟨m, hm⟩ : ∃ m, od2.length = m := ⟨_, rfl⟩
          have EV := hide (s_events w wc g evs2 od2 _ hP2.hs (by have := HG.out; omega))
          have OR := hide (fun W (h : Hs w W g evs2 od2 (Xs le2 lo2)) => s_order w W g evs2 od2 _ h (by have := HG.out; omega))
          have B1 := hide (fun W (u v : Int) (h : Hs w W g evs2 od2 (Xs le2 lo2)) => s_before w W g evs2 od2 _ h t n u v (by have := HG.out; omega))
          have B2 := hide (fun W (u v : Int) (h : Hs w W g evs2 od2 (Xs le2 lo2)) => s_before w W g evs2 od2 _ h u v t n (by have := HG.out; omega))
          have PE := hide hP2.ev
          have PO := hide hP2.ord
          have LB := hide (fun W (t n u v : Int) (oa : Option Addr) (hr : EvR W oa evs2) => lbefore_calls t n u v W oa ce2 evs2 hr (by have := HG.out; omega))
          obtain ⟨oe, hoe, hse⟩ := sl_oa le2 evs2.length ce2
          obtain ⟨oo, hoo, hso⟩ := sl_oa lo2 od2.length co2
          have hER : EvR wc oe evs2 := by rw [hoe]; exact EvR.of hP2.ev
          have HER := hide hER
          rw [hse, hso]
          rw [hq] at EV LB ⊢
          rw [hm] at OR ⊢
          have hq51 : q ≤ 51 := by have := HG.out; omega
          have hm51 : m ≤ 51 := by have := HG.out; omega
          have HQ := hide (And.intro hq hm)
          have HOE := hide (And.intro hoe hoo)
          clear hq hm hoe hoo hse hso hER hP2 hl1 hl2
          go_wp2_with (first
            | (go_at_call 9; (with_reducible refine EV.out.mono ?_); rintro e W2 ⟨lb2, cb2, rfl, hO, hB⟩; obtain ⟨o2, ho2, hs2⟩ := sl_oa lb2 q cb2; rw [hs2]; have HO2 := hide ho2; have E2 := hide hO; have B22 := hide hB; have P2 := hide (P.out.then_ hB); clear hO hB ho2 hs2)
            | (go_at_call 8; (with_reducible refine (OR.out _ P2.out.hs).mono ?_); rintro e W3 ⟨lb3, cb3, rfl, hO, hB⟩; obtain ⟨o3, ho3, hs3⟩ := sl_oa lb3 m cb3; rw [hs3]; have HO3 := hide ho3; have O3 := hide hO; have B23 := hide (be_call hB B22.out.size B22.out); have E3 := hide (E2.out.below hB); clear hO hB ho3 hs3))
          have P3 := hide (P.out.then_ B23.out)
          have HE3 := hide (PE.out.below B23.out)
          have HP3 := hide (PO.out.below B23.out)
          clear E2 B22 EV OR P2
          go_loopw [17, 136] (fun v17 v136 wq => ∃ j : Nat, j ≤ q ∧ v136 = .int .i64 (j : Int) ∧ Below W3.heap.size W3 wq) (fun v17 v136 _ => (q - intOf v136).toNat)
          case atStart => exact ⟨0, Nat.zero_le _, rfl, be_refl _⟩
          case round =>
            as_aux_lemma =>
            obtain ⟨j, hj, rfl, hB⟩ := hrel
            have BJ := hide hB
            by_cases hjq : j < q
            · as_aux_lemma =>
              have r1 : ((j : Int) < (q : Int)) = True := eq_true (by omega)
              have r1' : (j : Int) < (q : Int) := by omega
              have r0 : (0 : Int) ≤ (j : Int) := by omega
              obtain ⟨e, he⟩ : ∃ e, evs2[j]? = some e := ⟨_, List.getElem?_eq_getElem (by have := HQ.out.1; omega)⟩
              obtain ⟨b1, hb1, hl1, hc1⟩ := ev_cells E3.out he
              obtain ⟨b2, hb2, hl2, hc2⟩ := ev_cells HE3.out he
              have e1 : o2 = some ⟨b1, 0, none⟩ := by rw [HO2.out, hb1]; rfl
              have e2 : oe = some ⟨b2, 0, none⟩ := by rw [HOE.out.1, hb2]; rfl
              subst e1 e2
              obtain ⟨t1, n1, k1, w1⟩ := e
              have s0 : wr.cell? ⟨b1, j * 12, none⟩ = some (.int .i64 t1) := (hB.cell (p := ⟨b1, j * 12 + 0, none⟩) hl1).trans (hc1 0 (by omega) _ rfl)
              have s1 : wr.cell? ⟨b1, j * 12 + 1, none⟩ = some (.int .i64 n1) := (hB.cell (p := ⟨b1, j * 12 + 1, none⟩) hl1).trans (hc1 1 (by omega) _ rfl)
              have s2 : wr.cell? ⟨b1, j * 12 + 2, none⟩ = some (.int .i64 k1) := (hB.cell (p := ⟨b1, j * 12 + 2, none⟩) hl1).trans (hc1 2 (by omega) _ rfl)
              have s4 : wr.cell? ⟨b1, j * 12 + 4, none⟩ = some (.int .i64 w1) := (hB.cell (p := ⟨b1, j * 12 + 4, none⟩) hl1).trans (hc1 4 (by omega) _ rfl)
              have u0 : wr.cell? ⟨b2, j * 12, none⟩ = some (.int .i64 t1) := (hB.cell (p := ⟨b2, j * 12 + 0, none⟩) hl2).trans (hc2 0 (by omega) _ rfl)
              have u1 : wr.cell? ⟨b2, j * 12 + 1, none⟩ = some (.int .i64 n1) := (hB.cell (p := ⟨b2, j * 12 + 1, none⟩) hl2).trans (hc2 1 (by omega) _ rfl)
              have u2 : wr.cell? ⟨b2, j * 12 + 2, none⟩ = some (.int .i64 k1) := (hB.cell (p := ⟨b2, j * 12 + 2, none⟩) hl2).trans (hc2 2 (by omega) _ rfl)
              have u4 : wr.cell? ⟨b2, j * 12 + 4, none⟩ = some (.int .i64 w1) := (hB.cell (p := ⟨b2, j * 12 + 4, none⟩) hl2).trans (hc2 4 (by omega) _ rfl)
              have HJ := hide hjq
              clear he hb1 hb2 hl1 hl2 hc1 hc2 hjq hj hB
              go_upto_region 37 with fail
              go_quiet (fail)
              go_wp2
              exact ⟨⟨j + 1, by have := HJ.out; omega, by simp, by first | exact BJ.out | exact be_drewN BJ.out⟩, by simp only [intOf]; have := HJ.out; omega⟩
            · as_aux_lemma =>
              have r1 : ((j : Int) < (q : Int)) = False := eq_false (by omega)
              have B4 := hide (be_call hB B23.out.size B23.out)
              have O4 := hide (O3.out.below hB)
              have HP4 := hide (HP3.out.below hB)
              clear hjq hj hB BJ B23 O3 HP3 E3 HE3 P3
              go_wp2
              go_loopw [18, 194] (fun v18 v194 wt => ∃ k : Nat, k ≤ m ∧ v194 = .int .i64 (k : Int) ∧ Below wr.heap.size wr wt) (fun v18 v194 _ => (m - intOf v194).toNat)
              case atStart => exact ⟨0, Nat.zero_le _, rfl, be_refl _⟩
              case round =>
                as_aux_lemma =>
                obtain ⟨k, hk, rfl, hB⟩ := hrel
                have BK := hide hB
                by_cases hkm : k < m
                · as_aux_lemma =>
                  have r1 : ((k : Int) < (m : Int)) = True := eq_true (by omega)
                  have r1' : (k : Int) < (m : Int) := by omega
                  have r0 : (0 : Int) ≤ (k : Int) := by omega
                  obtain ⟨s, hs⟩ : ∃ s, od2[k]? = some s := ⟨_, List.getElem?_eq_getElem (by have := HQ.out.2; omega)⟩
                  obtain ⟨b1, hb1, hl1, x0, x1⟩ := sp_cells O4.out hs
                  obtain ⟨b2, hb2, hl2, y0, y1⟩ := sp_cells HP4.out hs
                  have e1 : o3 = some ⟨b1, 0, none⟩ := by rw [HO3.out, hb1]; rfl
                  have e2 : oo = some ⟨b2, 0, none⟩ := by rw [HOE.out.2, hb2]; rfl
                  subst e1 e2
                  obtain ⟨T, N⟩ := s
                  have x0' := (hB.cell (p := ⟨b1, k * 2, none⟩) hl1).trans x0
                  have x1' := (hB.cell (p := ⟨b1, k * 2 + 1, none⟩) hl1).trans x1
                  have y0' := (hB.cell (p := ⟨b2, k * 2, none⟩) hl2).trans y0
                  have y1' := (hB.cell (p := ⟨b2, k * 2 + 1, none⟩) hl2).trans y1
                  dsimp only at x0' x1' y0' y1'
                  have HK := hide hkm
                  clear hs hb1 hb2 hl1 hl2 x0 x1 y0 y1 hkm hk hB
                  go_upto_region 43 with fail
                  go_quiet (fail)
                  go_wp2
                  exact ⟨⟨k + 1, by have := HK.out; omega, by simp, by first | exact BK.out | exact be_drewN BK.out⟩, by simp only [intOf]; have := HK.out; omega⟩
                · as_aux_lemma =>
                  have r1 : ((k : Int) < (m : Int)) = False := eq_false (by omega)
                  have B5 := hide (be_call hB B4.out.size B4.out)
                  clear hkm hk hB BK B4 O4 HP4
                  have P5 := hide (P.out.then_ B5.out)
                  go_wp2_with (first
                    | (go_at_call 13; (with_reducible refine (B1.out _ _ _ P5.out.hs).mono ?_); rintro e W6 ⟨rfl, hb⟩; have B6 := hide (be_call hb B5.out.size B5.out); have P6 := hide (P5.out.then_ hb); clear hb)
                    | (go_at_call 14; (with_reducible refine (LB.out _ _ _ _ _ _ (HER.out.below B6.out)).mono ?_); rintro e V ⟨rfl, hV⟩; subst hV)
                    | (go_at_call 13; (with_reducible refine (B2.out _ _ _ P6.out.hs).mono ?_); rintro e W7 ⟨rfl, hb⟩; have B7 := hide (be_call hb B6.out.size B6.out); have P7 := hide (P6.out.then_ hb); clear hb)
                    | (go_at_call 14; (with_reducible refine (LB.out _ _ _ _ _ _ (HER.out.below B7.out)).mono ?_); rintro e V ⟨rfl, hV⟩; subst hV))
                  rw [HW.out]
                  exact ⟨⟨i + 1, evs2, od2, le2, ce2, lo2, co2, by have := HG.out; omega, by rw [HQ.out.1, HOE.out.1]; rfl, by rw [HQ.out.2, HOE.out.2]; rfl, rfl, P7.out, LE.out.1, LE.out.2⟩, by simp only [intOf]; have := HG.out; omega⟩
    · as_aux_lemma =>
      have hcase : (((i : Int) < (L1 : Int)) = False) ∨ (((i : Int) < (L1 : Int)) = True ∧ ((i : Int) < (L2 : Int)) = False) ∨ (((i : Int) < (L1 : Int)) = True ∧ ((i : Int) < (L2 : Int)) = True ∧ ((i : Int) < 50) = False) := by
        by_cases q : (i : Int) < (L1 : Int)
        · by_cases q2 : (i : Int) < (L2 : Int)
          · exact .inr (.inr ⟨eq_true q, eq_true q2, eq_false (fun q3 => hgo ⟨by omega, by omega, by omega⟩)⟩)
          · exact .inr (.inl ⟨eq_true q, eq_false q2⟩)
        · exact .inl (eq_false q)
      clear hgo hi
      rcases hcase with p1 | ⟨p1, p2⟩ | ⟨p1, p2, p3⟩
      all_goals
        go_wp2_with (go_at_call 10; (with_reducible refine (awake_calls _).mono ?_); rintro e W2 ⟨rfl, hb⟩; have M10 := hide (be_call hb P.out.hs.below.size P.out.hs.below); clear hb)
        go_ret
        exact ⟨rfl, M10.out⟩
end Go.Proofs.Ytkdfdcppeolbjaa.HistPlaysW


