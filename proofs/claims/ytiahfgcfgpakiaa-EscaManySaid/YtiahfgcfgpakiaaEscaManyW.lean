/- EscaMany: parameters are told as far as sixteen, each at most 65,535; those beyond are let go: for every input, without a condition. -/
import Derived.Test.YtiahfgcfgpakiaaEscaManyA
namespace Go.Proofs.Ytiahfgcfgpakiaa.EscaManyW
open Go Go.RowKit Go.Proofs.YtiahfgcfgpakiaaKit Go.Proofs.Ytiahfgcfgpakiaa.Mem Go.Proofs.YtiahfgcfgpakiaaW.PrintWords Go.Proofs.YtiahfgcfgpakiaaW.PrintLast Go.Proofs.Ytiahfgcfgpakiaa.Split Go.Proofs.Ytiahfgcfgpakiaa.EscaVal
set_option linter.unusedVariables false
set_option linter.unusedSimpArgs false
theorem and31 (n : Int) : ∃ K : Nat, Go.bits .and .i64 n 31 = (K : Int) ∧ K ≤ 31 := by
  have h : 0 ≤ Go.bits .and .i64 n 31 ∧ Go.bits .and .i64 n 31 ≤ 31 := and_range 5 (by omega) n
  exact ⟨(Go.bits .and .i64 n 31).toNat, by omega, by omega⟩
theorem and7 (n : Int) : ∃ K : Nat, Go.bits .and .i64 n 7 = (K : Int) := by
  have h : 0 ≤ Go.bits .and .i64 n 7 ∧ Go.bits .and .i64 n 7 ≤ 7 := and_range 3 (by omega) n
  exact ⟨(Go.bits .and .i64 n 7).toNat, by omega⟩
theorem and20 (n : Int) : ∃ K : Nat, Go.bits .and .i64 n 1048575 = (K : Int) ∧ K ≤ 1048575 := by
  have h : 0 ≤ Go.bits .and .i64 n 1048575 ∧ Go.bits .and .i64 n 1048575 ≤ 1048575 := and_range 20 (by omega) n
  exact ⟨(Go.bits .and .i64 n 1048575).toNat, by omega, by omega⟩
theorem last_byte (n : Int) : ∃ K : Nat, Int.tmod (Go.bits .and .i64 n 255) 63 = (K : Int) ∧ K ≤ 62 := by
  have h : 0 ≤ Go.bits .and .i64 n 255 ∧ Go.bits .and .i64 n 255 ≤ 255 := and_range 8 (by omega) n
  rw [Int.tmod_eq_emod_of_nonneg h.1]
  exact ⟨(Go.bits .and .i64 n 255 % 63).toNat, by omega, by omega⟩
theorem sameM (rv : Int) (u : List Int) (hu : u.length ≤ 1000000) (o1 : Option Addr) (cap1 : Nat) (lb1 : Option Nat) (ds1 : List ActD) (b : Nat) (o2 : Option Addr) (k2 cap2 : Nat) (hk : u.length = k2) (W : World) (ho : sl lb1 1 cap1 = .slice o1 1 cap1) (ha : AR W lb1 [(4, rv, u)] ds1)
    (h1 : W.heap[b]? = some (.cells #[.int .i64 4, .int .i32 rv, .slice o2 k2 cap2] 24 (0, 0))) (h2 : Rd W 0 o2 (u.map (.int .i64))) :
    Calls Try.prog 12 #[.slice o1 1 cap1, .slice (some ⟨b, 0, none⟩) 1 1] W fun e w' => e = .returned (.bool true) ∧ Below W.heap.size W w' := by
  subst hk
  refine sameActs_at [(4, rv, u)] 1 rfl (by decide) (by intro a h; simp at h; subst h; exact hu) lb1 (some b) o1 (some ⟨b, 0, none⟩) cap1 1 ho rfl ds1 [((4, rv, u), o2, cap2)] W ha ⟨rfl, rd_block h1 rfl, ?_⟩
  intro d hd
  simp only [List.mem_cons, List.not_mem_nil, or_false] at hd
  subst hd
  exact h2
theorem feedM (bs : List Int) (hbb : ∀ x ∈ bs, 0 ≤ x ∧ x ≤ 255) (hlen : bs.length ≤ 100000) (n : Nat) (hn : bs.length = n) (l : List Act3) (h : feedP e0 bs = (e0, l)) (k : Nat) (hk : l.length = k) (oa : Option Addr) (cb : Nat) (w : World) (hr : Rd w 0 oa (bs.map (.int .u8))) :
    Calls Try.prog 11 #[.agg #[.int .i64 0, .int .i64 0, .int .i64 0, .int .i64 0, .slice none 0 0, .int .i64 0, .bool false, .bool false], .slice oa n cb] w fun e w' => ∃ (A : Option Addr) (c : Nat) (lb : Option Nat) (cap : Nat) (o : Option Addr) (ds : List ActD), e = .returned (.tuple #[.agg #[.int .i64 0, .int .i64 0, .int .i64 0, .int .i64 0, .slice A 0 c, .int .i64 0, .bool false, .bool false], .slice o k cap]) ∧ sl lb k cap = .slice o k cap ∧ AR w' lb l ds ∧ Below w.heap.size w w' :=
  (feed_zero_at bs hbb hlen n hn e0 l h k hk oa cb w hr).mono fun e w' h2 => by
    obtain ⟨A, c, lb, cap, o, ds, rfl, _, _, ho, ha, hb⟩ := h2
    exact ⟨A, c, lb, cap, o, ds, rfl, ho, ha.ar, hb⟩
set_option maxHeartbeats 8000000 in
set_option maxRecDepth 100000 in
theorem walkR (n : Int) (A1 : Option Addr) (len1 c1 : Nat) (z1 : List Int) (last : Int) (w : World) (hn : (Lit.int .i64 n).wf = true)
    (h1 : (A1 = none ∧ len1 = 0 ∧ c1 = 0 ∧ z1 = []) ∨ ∃ x, A1 = some x ∧ len1 ≤ c1 ∧ c1 ≤ maxLen ∧ z1.length = c1 ∧ (∀ i, i < z1.length → w.cell? (x.add i) = some (.int .i64 (z1.getD i 0))) ∧ ∀ n ∈ z1, (Lit.int .i64 n).wf = true) (y1 : len1 * 8 ≤ 140737488351232) (hl : (Lit.int .i64 last).wf = true) :
    Calls Try.prog 4 #[.int .i64 n, .slice A1 len1 c1, .int .i64 last] w fun e w' => e = .returned (.bool true) ∧ Below w.heap.size w w' := by
  obtain ⟨l, rfl, hr1, _, _⟩ := ReadsInt.ofRow h1
  obtain ⟨i0, hi, hz0, hz1, hz2⟩ := info_parts (show (Try.prog.info? 3).map (fun i => (i.zero, i.size, i.bytes)) = some (some (.int .i64 0), 1, 8) by kernel_rfl)
  clear h1 y1 hn hl
  have R1 := hide (rd_of_reads hr1)
  obtain ⟨L, hL⟩ : ∃ m, l.length = m := ⟨_, rfl⟩
  rw [hL]
  have HL := hide hL
  clear hL hr1
  obtain ⟨N, hN, hN31⟩ := and31 n
  have hNI : (N : Int) ≤ 31 := by omega
  go_enter Try.func4, Try.ntmps4
  go_wp2
  clear hN
  go_loopw [7, 8, 9, 10] (fun v7 v8 v9 v10 wr => ∃ (i : Nat) (B : ByteArray) (ps : List Int) (num : Int) (want : List Int) (lb : Option Nat) (cap : Nat), i ≤ N ∧ v9 = .int .i64 (i : Int) ∧ v7 = .string B ∧ v8 = sl lb want.length cap ∧ MI i B ps num want ∧ Own wr w.heap.size 3 1 lb want.length cap (want.map (.int .i64)) ∧ Below w.heap.size w wr) (fun v7 v8 v9 v10 _ => (N - intOf v9).toNat)
  case atStart => exact ⟨0, ⟨#[27, 91]⟩, [], -1, [], none, 0, Nat.zero_le _, rfl, rfl, rfl, mi_begin, Own.nil _ _ _ _, be_refl _⟩
  case round =>
    obtain ⟨i, B, ps, num, want, lb, cap, hiN, rfl, rfl, rfl, hMI, hO, hB⟩ := hrel
    have HM := hide hMI
    have hw16 := hMI.len
    have hBsz := hMI.size
    obtain ⟨k, hk⟩ : ∃ k, want.length = k := ⟨_, rfl⟩
    rw [hk] at hO hw16 ⊢
    have HK := hide hk
    obtain ⟨ob, hob⟩ := sl_to lb k cap
    rw [hob]
    have HOB := hide hob
    have HO := hide hO
    have HB := hide hB
    have hBs := hB.size
    clear hMI hk hob hO
    by_cases hgo : i < N
    · have r1 : ((i : Int) < (N : Int)) = True := eq_true (by omega)
      have r1' : (i : Int) < (N : Int) := by omega
      have r0 : (0 : Int) ≤ (i : Int) := by omega
      have hSep : ∃ B1 : ByteArray, bytesOf B1 = (if 0 < i then bytesOf B ++ [59] else bytesOf B) ∧ B1.size ≤ 300 ∧ (0 < i → B1 = B ++ ⟨#[59]⟩) ∧ (¬ 0 < i → B1 = B) := by
        by_cases h0 : 0 < i
        · refine ⟨B ++ ⟨#[59]⟩, by rw [if_pos h0, bytesOf_app]; rfl, ?_, fun _ => rfl, fun h => absurd h0 h⟩
          rw [← size_bytes, bytesOf_app, List.length_append, size_bytes]
          have : (bytesOf (⟨#[59]⟩ : ByteArray)).length = 1 := rfl
          omega
        · exact ⟨B, by rw [if_neg h0], by omega, fun h => absurd h h0, fun _ => rfl⟩
      obtain ⟨B1, hB1, hB1s, hB1p, hB1n⟩ := hSep
      have HB1 := hide hB1
      have HG := hide hgo
      have hc1 : (9223372036854775807 < B.size + 1) = False := eq_false (by omega)
      go_upto_if 22 with fail
      go_cut [7] (fun v7 wx => v7 = .string B1 ∧ wx = wr)
      case first =>
        by_cases h0 : 0 < i
        · have p1 : ((0 : Int) < (i : Int)) = True := eq_true (by omega)
          have p2 : (0 < i) = True := eq_true h0
          have hb := hB1p h0
          go_wp2
          go_meet
          exact ⟨by rw [hb], rfl⟩
        · have p1 : ((0 : Int) < (i : Int)) = False := eq_false (by omega)
          have p2 : (0 < i) = False := eq_false h0
          have hb := hB1n h0
          go_wp2
          go_meet
          exact ⟨by rw [hb], rfl⟩
      case rest =>
        obtain ⟨rfl, rfl⟩ := hcut
        go_upto_region 10 with fail
        go_cut [36] (fun v36 wx => ∃ t : Bool, v36 = .bool t ∧ (t = true → i < L) ∧ wx = wc)
        case first =>
          by_cases hil : i < L
          · obtain ⟨x, hx⟩ : ∃ x, l[i]? = some x := ⟨_, List.getElem?_eq_getElem (by have := HL.out; omega)⟩
            obtain ⟨ad, e1, _, hcx⟩ := (R1.out.below (be_call HB.out (Nat.le_refl _) (be_refl w))).at_ i (.int .i64 x) (by simp [hx])
            subst e1
            have q1 : ((i : Int) < (L : Int)) = True := eq_true (by omega)
            have q1' : (i : Int) < (L : Int) := by omega
            clear hx
            go_wp2
            go_meet
            exact ⟨_, rfl, fun _ => hil, rfl⟩
          · have q1 : ((i : Int) < (L : Int)) = False := eq_false (by omega)
            go_wp2
            go_meet
            exact ⟨_, rfl, fun h => absurd h (by decide), rfl⟩
        case rest =>
          obtain ⟨t, rfl, ht, rfl⟩ := hcut
          go_upto_if 36 with fail
          go_cut [7, 10] (fun v7 v10 wx => ∃ (B2 : ByteArray) (D : List Int) (kk : Int), v7 = .string B2 ∧ v10 = .int .i64 kk ∧ bytesOf B2 = bytesOf B1 ++ D ∧ Digs D ∧ numF (-1) D = kk ∧ D.length ≤ 7 ∧ Below w.heap.size w wx ∧ Own wx w.heap.size 3 1 lb k cap (want.map (.int .i64)))
          case first =>
            cases t with
            | false =>
              go_wp2
              go_meet
              exact ⟨B1, [], -1, rfl, rfl, by simp, (fun b h => by cases h), rfl, by simp, HB.out, HO.out⟩
            | true =>
              have hil := ht rfl
              obtain ⟨x, hx⟩ : ∃ x, l[i]? = some x := ⟨_, List.getElem?_eq_getElem (by have := HL.out; omega)⟩
              obtain ⟨ad, e1, _, hcx⟩ := (R1.out.below (be_call HB.out (Nat.le_refl _) (be_refl w))).at_ i (.int .i64 x) (by simp [hx])
              subst e1
              have q1' : (i : Int) < (L : Int) := by omega
              obtain ⟨Kn, hKn, hKn2⟩ := and20 (x / 8)
              have hKn3 : (Kn : Int) ≤ 1048575 := by omega
              clear hx
              by_cases h6 : 65535 < (Kn : Int)
              · have p6 : (65535 < (Kn : Int)) = True := eq_true h6
                have p7 : (65535 < Kn) = True := eq_true (by omega)
                go_wp2_with (go_at_call 14; (with_reducible refine (digits_val Kn hKn2 _).mono ?_); rintro e w9 ⟨D, rfl, hd, hne, hv, hl7, hb9⟩; have hcat : (9223372036854775807 < B1.size + D.size) = False := eq_false (by have := size_bytes D; omega))
                go_meet
                exact ⟨B1 ++ D, bytesOf D, 65535, rfl, rfl, bytesOf_app _ _, hd, by rw [numF_start _ hd hne, hv]; unfold cap6; rw [if_pos h6], hl7, be_call hb9 HB.out.size HB.out, HO.out.below hb9⟩
              · have p6 : (65535 < (Kn : Int)) = False := eq_false h6
                have p7 : (65535 < Kn) = False := eq_false (by omega)
                go_wp2_with (go_at_call 14; (with_reducible refine (digits_val Kn hKn2 _).mono ?_); rintro e w9 ⟨D, rfl, hd, hne, hv, hl7, hb9⟩; have hcat : (9223372036854775807 < B1.size + D.size) = False := eq_false (by have := size_bytes D; omega))
                go_meet
                exact ⟨B1 ++ D, bytesOf D, (Kn : Int), rfl, rfl, bytesOf_app _ _, hd, by rw [numF_start _ hd hne, hv]; unfold cap6; rw [if_neg (by omega)], hl7, be_call hb9 HB.out.size HB.out, HO.out.below hb9⟩
          case rest =>
            obtain ⟨B2, D, kk, rfl, rfl, hB2, hD, hkk, hD7, hBw, hOw⟩ := hcut
            obtain ⟨ps2, hM2⟩ := HM.out.next B2 D kk hD hkk hD7 (by rw [hB2, HB1.out])
            have HM2 := hide hM2
            have HOW := hide hOw
            have HBW := hide hBw
            have hBws := hBw.size
            clear hB2 hD hkk hD7 hM2 hOw hBw ht
            by_cases h16 : k < 16
            · have p1 : ((k : Int) < 16) = True := eq_true (by omega)
              have p2 : (k < 16) = True := eq_true h16
              go_wp2_with (at_builtin; rw [← HOB.out]; refine wpList_append_rd _ rfl (.tmp 52) (.tmp 54) 22 rfl w.heap.size 3 i0 _ 1 8 Try.underlying22 hi hz0 hz1 hz2 rfl (by omega) lb k cap (want.map (.int .i64)) rfl (HOW.out.alloc _) (some ⟨_, 0, none⟩) 1 1 [.int .i64 kk] rfl (by simp) (rd_block (bs_new rfl) rfl) (by intro u hu; simp at hu; subst hu; rfl) (by unfold maxLen; omega) (by omega) (by simp; omega) ?_; intro lb8 cap8 w8 hO8 hg8 hat8; obtain ⟨o8, ho8⟩ := sl_to lb8 (k + 1) cap8; rw [ho8]; have HO8 := hide hO8; have H8 := hide ho8; have HG8 := hide hg8; clear hO8 ho8 hg8)
              have hlbb : ∀ b, lb = some b → w.heap.size ≤ b := fun b e => by have h := HOW.out; rw [e] at h; exact (own_base h).1
              have hlen : (want ++ [kk]).length = k + 1 := by rw [List.length_append, HK.out]; rfl
              have hif : (if want.length < 16 then want ++ [kk] else want) = want ++ [kk] := by rw [if_pos (by rw [HK.out]; exact h16)]
              refine ⟨⟨i + 1, B2, ps2, kk, want ++ [kk], lb8, cap8, by have := HG.out; omega, by simp, rfl, by rw [hlen, H8.out], by rw [← hif]; exact HM2.out, ?_, ?_⟩, by simp only [intOf]; have := HG.out; omega⟩
              · rw [hlen, List.map_append]
                exact HO8.out
              · exact below_grown (be_alloc HBW.out HBW.out.size) (by simp; omega) HG8.out hlbb
            · have p1 : ((k : Int) < 16) = False := eq_false (by omega)
              have p2 : (k < 16) = False := eq_false h16
              go_wp2
              have hif : (if want.length < 16 then want ++ [kk] else want) = want := by rw [if_neg (by rw [HK.out]; exact h16)]
              refine ⟨⟨i + 1, B2, ps2, kk, want, lb, cap, by have := HG.out; omega, by simp, rfl, by rw [HK.out, HOB.out], by rw [← hif]; exact HM2.out, by rw [HK.out]; exact HOW.out, HBW.out⟩, by simp only [intOf]; have := HG.out; omega⟩
    · have r1 : ((i : Int) < (N : Int)) = False := eq_false (by omega)
      have hiN2 : i = N := by omega
      subst hiN2
      clear hgo hiN
      obtain ⟨u, hu⟩ : ∃ u, u = (if i = 1 ∧ want = [-1] then [] else want) := ⟨_, rfl⟩
      have HU := hide hu
      have h1w : i = 1 → want = [num] := fun e => by rw [HM.out.more (by omega), HM.out.one e]; rfl
      clear hu
      go_upto_region 16 with fail
      go_cut [63] (fun v63 wx => ∃ t : Bool, v63 = .bool t ∧ (t = true → i = 1 ∧ want = [-1]) ∧ (t = false → ¬ (i = 1 ∧ want = [-1])) ∧ wx = wr)
      case first =>
        by_cases hi1 : i = 1
        · have hw := h1w hi1
          have hk1 : k = 1 := by rw [← HK.out, hw]; rfl
          have p1 : ((i : Int) == 1) = true := by simp; omega
          have p2 : ((i : Int) = 1) = True := eq_true (by omega)
          have p3 : (i = 1) = True := eq_true hi1
          obtain ⟨bq, hbq, _, _, hcell⟩ := HO.out.cell 0 (.int .i64 num) (by rw [hw]; rfl)
          have e1 : ob = some ⟨bq, 0, none⟩ := by have h := HOB.out; rw [hbq] at h; simp [sl] at h; exact h.symm
          have q1 : ((0 : Int) < (k : Int)) = True := eq_true (by omega)
          have q2 : (0 < k) = True := eq_true (by omega)
          subst e1
          have HI1 := hide hi1
          clear h1w hi1 hw
          by_cases hn1 : num = -1
          · have p4 : (num == -1) = true := by simp [hn1]
            have p5 : (num = -1) = True := eq_true hn1
            have hww := HK.out
            go_wp2
            go_meet
            exact ⟨true, rfl, fun _ => ⟨HI1.out, by have := HM.out.more (by have := HI1.out; omega); rw [this, HM.out.one HI1.out, hn1]; rfl⟩, fun h => absurd h (by decide), rfl⟩
          · have p4 : (num == -1) = false := by simp [hn1]
            have p5 : (num = -1) = False := eq_false hn1
            go_wp2
            go_meet
            exact ⟨false, rfl, fun h => absurd h (by decide), fun _ h => by
              have h2 := HM.out.more (by have := HI1.out; omega)
              rw [HM.out.one HI1.out, h.2] at h2
              have h3 : [(-1 : Int)] = [num] := h2
              simp at h3
              exact hn1 h3.symm, rfl⟩
        · have p1 : ((i : Int) == 1) = false := by simp; omega
          have p2 : ((i : Int) = 1) = False := eq_false (by omega)
          have p3 : (i = 1) = False := eq_false hi1
          go_wp2
          go_meet
          exact ⟨false, rfl, fun h => absurd h (by decide), fun _ h => hi1 h.1, rfl⟩
      case rest =>
        obtain ⟨t, rfl, ht1, ht2, rfl⟩ := hcut
        go_upto_if 63 with fail
        go_cut [8] (fun v8 wx => ∃ (lb2 : Option Nat) (cap2 : Nat), v8 = sl lb2 u.length cap2 ∧ Own wx w.heap.size 3 1 lb2 u.length cap2 (u.map (.int .i64)) ∧ wx = wc)
        case first =>
          cases t with
          | true =>
            have hue : u = [] := by rw [HU.out, if_pos (ht1 rfl)]
            have HUE := hide hue
            clear ht1 ht2 h1w hue
            go_wp2
            go_meet
            exact ⟨none, 0, by rw [HUE.out]; rfl, by rw [HUE.out]; exact Own.nil _ _ _ _, rfl⟩
          | false =>
            have hue : u = want := by rw [HU.out, if_neg (ht2 rfl)]
            have HUE := hide hue
            clear ht1 ht2 h1w hue
            go_wp2
            go_meet
            exact ⟨lb, cap, by rw [HUE.out, HK.out, HOB.out], by rw [HUE.out, HK.out]; exact HO.out, rfl⟩
        case rest =>
          obtain ⟨lb2, cap2, rfl, hO2, rfl⟩ := hcut
          have hul : u.length ≤ 16 := by rw [HU.out]; split <;> first | exact Nat.zero_le _ | exact HM.out.len
          obtain ⟨k2, hk2⟩ : ∃ k, u.length = k := ⟨_, rfl⟩
          rw [hk2] at hO2 hul ⊢
          have HK2 := hide hk2
          obtain ⟨o2, ho2⟩ := sl_to lb2 k2 cap2
          rw [ho2]
          have HR2 := hide (show Rd wc 0 o2 (u.map (.int .i64)) by have h := ho2; simp [sl] at h; rw [← h]; exact (Rd.of hO2).lower (Nat.zero_le _))
          obtain ⟨Kr, hKr, hKr2⟩ := last_byte last
          have hKr3 : (Kr : Int) ≤ 62 := by omega
          have hfin := HM.out.last (64 + (Kr : Int)) (by omega) (by omega)
          rw [← HU.out, show wrap32 (64 + (Kr : Int)) = 64 + (Kr : Int) by unfold wrap32; omega] at hfin
          have HF := hide hfin
          have kb := fun W => print_bytes (P := Try.prog) 9 36 5 Try.underlying9 Try.underlying36 Try.underlying5 B W
          obtain ⟨i5, hi5, hx0, hx1, hx2⟩ := info_parts (show (Try.prog.info? 5).map (fun i => (i.zero, i.size, i.bytes)) = some (some (.int .u8 0), 1, 1) by kernel_rfl)
          clear ht1 ht2 hO2 hk2 ho2 hfin h1w
          have HBC := hide (conv_below (be_refl wc) (Nat.le_refl _) 5 B)
          have hB3 : B.size ≤ 1000 := by omega
          have hbok : ∀ x ∈ bytesOf B ++ [64 + (Kr : Int)], 0 ≤ x ∧ x ≤ 255 := fun x hx => by
            rcases List.mem_append.1 hx with h | h
            · exact bytesOf_ok B x h
            · simp at h; omega
          have HOKB := hide hbok
          have hlenb : (bytesOf B ++ [64 + (Kr : Int)]).length = B.size + 1 := by rw [List.length_append, size_bytes]; rfl
          have HLB := hide (And.intro hlenb hB3)
          clear hbok hlenb
          go_upto_region 20 with (first
            | (at_builtin; refine wpList_append_conv (w0 := wc) wc.heap.size rfl (.tmp 72) (.tmp 74) 36 rfl 5 i5 Try.underlying36 hi5 hx0 hx1 hx2 wc.heap.size B.size (grownCap wc B.size 0 5) (Lib.bytesCells wc 5 B) _ _ (conv_row wc 5 B _) (Nat.le_refl _) ((bytesOf B).map (.int .u8)) (conv_take wc 5 B) (by rw [List.length_map, size_bytes]) (conv_size wc 5 B) (Nat.le_refl _) (be_alloc HBC.out HBC.out.size) (be_alloc HBC.out HBC.out.size).size rfl ⟨_, 0, none⟩ 1 (.int .u8 (64 + (Kr : Int))) rfl (by first | exact (cell_of (bs_new rfl) 0).trans rfl | (rw [← Lib.bytesWorld_size wc 5 B]; exact (cell_of (bs_new rfl) 0).trans rfl)) rfl (by omega) ?_; intro o9 cap9 w9 hR9 hb9; have HR9 := hide hR9; clear hR9)
            | (go_at_call 11; (with_reducible refine (feedM (bytesOf B ++ [64 + (Kr : Int)]) HOKB.out (by have := HLB.out; omega) (B.size + 1) HLB.out.1 [(4, 64 + (Kr : Int), u)] HF.out 1 rfl _ _ _ ?hr).mono ?_); (case hr => rw [List.map_append]; exact HR9.out); rintro e w8 ⟨A3, c3, lb3, cap3, o3, ds3, rfl, ho3, ha3, hb8⟩; have HA3 := hide ha3; have H3 := hide ho3; have hz8 := hb8.size; (try simp at hz8); obtain ⟨hc8, hf8⟩ := be_cells hb8; clear ho3 ha3))
          have hz9 := hb9.size
          refine wp_letter (fun W => W.heap[w8.heap.size]? = some (.cells #[.int .i64 0, .int .i64 0, .int .i64 0, .int .i64 0, .slice A3 0 c3, .int .i64 0, .bool false, .bool false] 33 (0, 0)) ∧ (AR W lb3 [(4, 64 + (Kr : Int), u)] ds3 ∧ Rd W 0 o2 (u.map (.int .i64))) ∧ Below w.heap.size w W) ⟨?_, ⟨?_, ?_⟩, ?_⟩ ?_
          · (apply bs_eq; (case h => (repeat (first | (with_reducible assumption) | (with_reducible apply bs_same) | (with_reducible apply bs_far; case hp => (dsimp only; omega)) | (with_reducible apply bs_drew) | (with_reducible apply bs_drewN) | (with_reducible apply bs_new; (first | (with_reducible rfl) | (simp; done))) | (with_reducible apply bs_alloc) | (with_reducible apply bs_below; (case hb => with_reducible assumption); (case hB => first | omega | (simp; omega) | (simp; done)))))); (case e => rfl))
          · exact HA3.out.below (by (repeat (first | (with_reducible assumption) | with_reducible exact be_refl _ | (with_reducible refine be_set ?_ (by dsimp only; omega)) | (with_reducible apply be_drew) | (with_reducible apply be_drewN) | (with_reducible refine be_alloc ?_ (by first | omega | (simp; omega) | simp)) | (with_reducible refine be_call (by with_reducible assumption) (by first | omega | (simp; omega) | simp) ?_))))
          · exact ((HR2.out.below hb9).below hb8).below (by (repeat (first | (with_reducible assumption) | with_reducible exact be_refl _ | (with_reducible refine be_set ?_ (by dsimp only; omega)) | (with_reducible apply be_drew) | (with_reducible apply be_drewN) | (with_reducible refine be_alloc ?_ (by first | omega | (simp; omega) | simp)) | (with_reducible refine be_call (by with_reducible assumption) (by first | omega | (simp; omega) | simp) ?_))))
          · have hww := HB.out; have hw9 : Below w.heap.size w w9 := be_call hb9 hBs hww; have hsz := hw9.size; (repeat (first | (with_reducible assumption) | with_reducible exact be_refl _ | (with_reducible refine be_set ?_ (by dsimp only; omega)) | (with_reducible apply be_drew) | (with_reducible apply be_drewN) | (with_reducible refine be_alloc ?_ (by first | omega | (simp; omega) | simp)) | (with_reducible refine be_call (by with_reducible assumption) (by first | omega | (simp; omega) | simp) ?_)))
          obtain ⟨G, hG⟩ : ∃ G, G = w8.heap.size := ⟨_, rfl⟩
          rw [← hG]
          clear hG HA3 HR2 HB HBC HR9 hb9 hb8 hz8 hz9 hc8 hf8 hBs
          rintro M9 ⟨kG, ⟨ha3, hr2⟩, hB⟩
          have HA3 := hide ha3
          have HR2 := hide hr2
          have sG := bs_lt kG
          have hMs := hB.size
          obtain ⟨x0, x1, x2, x3, x4, x5, x6, x7, _⟩ := cells8 kG
          have HU16 := hide hul
          clear ha3 hr2
          go_wp2_with (first
            | (go_at_call 15; (with_reducible refine (sameEsc_zero _ _ _ _ _).mono ?_); rintro e w7 ⟨rfl, hb7⟩; have hz7 := hb7.size; (try simp at hz7))
            | (go_at_call 12; (with_reducible refine (sameM (64 + (Kr : Int)) u (by have := HU16.out; have := HK2.out; omega) o3 cap3 lb3 ds3 _ o2 k2 cap2 HK2.out _ H3.out ?ha ?h1 ?h2).mono ?_); (case ha => exact HA3.out.below (by (repeat (first | (with_reducible assumption) | with_reducible exact be_refl _ | (with_reducible refine be_set ?_ (by dsimp only; omega)) | (with_reducible apply be_drew) | (with_reducible apply be_drewN) | (with_reducible refine be_alloc ?_ (by first | omega | (simp; omega) | simp)) | (with_reducible refine be_call (by with_reducible assumption) (by first | omega | (simp; omega) | simp) ?_))))); (case h1 => (repeat (first | (with_reducible assumption) | (with_reducible apply bs_same) | (with_reducible apply bs_far; case hp => (dsimp only; omega)) | (with_reducible apply bs_drew) | (with_reducible apply bs_drewN) | (with_reducible apply bs_new; (first | (with_reducible rfl) | (simp; done))) | (with_reducible apply bs_alloc) | (with_reducible apply bs_below; (case hb => with_reducible assumption); (case hB => first | omega | (simp; omega) | (simp; done)))))); (case h2 => exact HR2.out.below (by (repeat (first | (with_reducible assumption) | with_reducible exact be_refl _ | (with_reducible refine be_set ?_ (by dsimp only; omega)) | (with_reducible apply be_drew) | (with_reducible apply be_drewN) | (with_reducible refine be_alloc ?_ (by first | omega | (simp; omega) | simp)) | (with_reducible refine be_call (by with_reducible assumption) (by first | omega | (simp; omega) | simp) ?_))))); rintro e w6 ⟨rfl, hb6⟩; have hz6 := hb6.size; (try simp at hz6))
            | (go_at_call 13; (with_reducible refine (awake_val _).mono ?_); rintro e w5 ⟨rfl, hb5⟩; have hz5 := hb5.size; (try simp at hz5)))
          go_ret
          exact ⟨rfl, by (repeat (first | (with_reducible assumption) | with_reducible exact be_refl _ | (with_reducible refine be_set ?_ (by dsimp only; omega)) | (with_reducible apply be_drew) | (with_reducible apply be_drewN) | (with_reducible refine be_alloc ?_ (by first | omega | (simp; omega) | simp)) | (with_reducible refine be_call (by with_reducible assumption) (by first | omega | (simp; omega) | simp) ?_)))⟩
end Go.Proofs.Ytiahfgcfgpakiaa.EscaManyW


