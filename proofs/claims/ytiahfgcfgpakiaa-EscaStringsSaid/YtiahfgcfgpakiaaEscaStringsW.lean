/- EscaStrings: what stands in a string asks nothing, but for what ends it: for every input, without a condition. -/
import Derived.Test.YtiahfgcfgpakiaaEscaStrM
import Derived.Test.YtiahfgcfgpakiaaFloat
import Derived.Lib.SlBytesConst
namespace Go.Proofs.Ytiahfgcfgpakiaa.EscaStringsW
open Go Go.RowKit Go.Proofs.YtiahfgcfgpakiaaKit Go.Proofs.Ytiahfgcfgpakiaa.Mem Go.Proofs.YtiahfgcfgpakiaaW.PrintWords Go.Proofs.YtiahfgcfgpakiaaW.PrintLast Go.Proofs.Ytiahfgcfgpakiaa.Split Go.Proofs.Ytiahfgcfgpakiaa.EscaVal Go.Proofs.Ytiahfgcfgpakiaa.Facts
set_option linter.unusedVariables false
set_option linter.unusedSimpArgs false
theorem no_dst {ops : Array Oper} {n : Nat} {s : Tmp} (h : (List.range n).all (fun k => dstOf ops k != some s) = true) : ∀ k, k < n → dstOf ops k ≠ some s := fun k hk => by
  have := List.all_eq_true.1 h k (List.mem_range.2 hk)
  simpa using this
theorem mem_dep {ops : Array Oper} {i d : Nat} (h : (deps .any ops i).contains d = true) : d ∈ deps .any ops i := by simpa using h
theorem byte_wf {x : Int} (h : (Lit.int .u8 x).wf = true) : 0 ≤ x ∧ x ≤ 255 := by
  simp [Lit.wf, IntKind.min, IntKind.max, IntKind.signed, IntKind.bits] at h
  omega
theorem pick5 (n : Int) : ∃ K : Nat, Int.tmod (Go.bits .and .i64 n 255) 5 = (K : Int) ∧ K ≤ 4 := by
  have h : 0 ≤ Go.bits .and .i64 n 255 ∧ Go.bits .and .i64 n 255 ≤ 255 := and_range 8 (by omega) n
  rw [Int.tmod_eq_emod_of_nonneg h.1]
  exact ⟨(Go.bits .and .i64 n 255 % 5).toNat, by omega, by omega⟩
theorem pick6 (n : Int) : ∃ K : Nat, Int.tmod (Go.bits .and .i64 n 255) 6 = (K : Int) ∧ K ≤ 5 := by
  have h : 0 ≤ Go.bits .and .i64 n 255 ∧ Go.bits .and .i64 n 255 ≤ 255 := and_range 8 (by omega) n
  rw [Int.tmod_eq_emod_of_nonneg h.1]
  exact ⟨(Go.bits .and .i64 n 255 % 6).toNat, by omega, by omega⟩
theorem feedA (A0 : Option Addr) (c0 : Nat) (oa : Option Addr) (cb : Nat) (w : World) (hr : Rd w 0 oa ([97].map (.int .u8))) :
    Calls Try.prog 11 #[.agg #[.int .i64 0, .int .i64 0, .int .i64 0, .int .i64 0, .slice A0 0 c0, .int .i64 0, .bool false, .bool false], .slice oa 1 cb] w fun e w' => ∃ (A : Option Addr) (c : Nat) (cap : Nat) (b : Nat), e = .returned (.tuple #[.agg #[.int .i64 0, .int .i64 0, .int .i64 0, .int .i64 0, .slice A 0 c, .int .i64 0, .bool false, .bool false], .slice (some ⟨b, 0, none⟩) 1 cap]) ∧ Rd w' 0 (some ⟨b, 0, none⟩) [.int .i64 1, .int .i32 97] ∧ Below w.heap.size w w' :=
  (feed_next_at e0 wf_e0 [97] (by decide) (by decide) 1 rfl e0 _ feed_a 1 rfl A0 c0 oa cb w (Nat.zero_le _) (fun _ _ => ⟨rfl, by simp [e0], fun h => absurd h (Nat.lt_irrefl 0)⟩) hr).mono fun e w' h2 => by
    obtain ⟨A, c, lb, cap, o, ds, rfl, _, _, ho, ha, hb⟩ := h2
    obtain ⟨b, A9, c9, rfl, _, q1, q2, _⟩ := ha.ar.at_ (j := 0) (a := (1, 97, [])) rfl
    cases ho
    refine ⟨A, c, cap, _, rfl, fun j v hv => ⟨_, rfl, Nat.zero_le _, ?_⟩, hb⟩
    match j, hv with
    | 0, hv => simp at hv; subst hv; exact q1
    | 1, hv => simp at hv; subst hv; exact q2
set_option maxHeartbeats 8000000 in
set_option maxRecDepth 100000 in
theorem walkR (A0 : Option Addr) (len0 c0 : Nat) (z0 : List Int) (which fin : Int) (w : World)
    (h0 : (A0 = none ∧ len0 = 0 ∧ c0 = 0 ∧ z0 = []) ∨ ∃ x, A0 = some x ∧ len0 ≤ c0 ∧ c0 ≤ maxLen ∧ z0.length = c0 ∧ (∀ i, i < z0.length → w.cell? (x.add i) = some (.int .u8 (z0.getD i 0))) ∧ ∀ n ∈ z0, (Lit.int .u8 n).wf = true) (y0 : len0 * 1 ≤ 140737488351232)
    (hwh : (Lit.int .i64 which).wf = true) (hfi : (Lit.int .i64 fin).wf = true) :
    Calls Try.prog 5 #[.slice A0 len0 c0, .int .i64 which, .int .i64 fin] w fun e w' => e = .returned (.bool true) ∧ Below w.heap.size w w' := by
  obtain ⟨r, rfl, hr0, _, hw0⟩ := ReadsInt.ofRow h0
  obtain ⟨i0, hi, hz0, hz1, hz2⟩ := info_parts (show (Try.prog.info? 5).map (fun i => (i.zero, i.size, i.bytes)) = some (some (.int .u8 0), 1, 1) by kernel_rfl)
  clear h0 y0 hwh hfi
  have R0 := hide (rd_of_reads hr0)
  have hbr : ∀ x ∈ r, 0 ≤ x ∧ x ≤ 255 := fun x hx => byte_wf (hw0 x hx)
  have HBR := hide hbr
  obtain ⟨L, hL⟩ : ∃ n, r.length = n := ⟨_, rfl⟩
  rw [hL]
  have HL := hide hL
  clear hL hr0 hw0 hbr
  by_cases h5 : 300 < L
  · have p1 : ((300 : Int) < (L : Int)) = True := eq_true (by omega)
    clear h5
    go_enter Try.func5, Try.ntmps5
    go_wp2_with (go_at_call 13; (with_reducible refine (awake_val _).mono ?_); rintro e w5 ⟨rfl, hb5⟩)
    go_ret
    exact ⟨rfl, hb5⟩
  have p1 : ((300 : Int) < (L : Int)) = False := eq_false (by omega)
  have hL3 : (L : Int) ≤ 300 := by omega
  obtain ⟨K5, hK5, hK52⟩ := pick5 which
  obtain ⟨K6, hK6, hK62⟩ := pick6 fin
  have HK6 := hide (And.intro hK6 hK62)
  clear hK6 hK62 h5
  go_enter Try.func5, Try.ntmps5
  go_upto_region 3 with fail
  go_cut [7] (fun v7 wx => ∃ (k : Nat) (lb : Option Nat) (cap : Nat), k ≤ 4 ∧ v7 = sl lb 2 cap ∧ Own wx w.heap.size 5 1 lb 2 cap ([.int .u8 27] ++ [.int .u8 (strC k)]) ∧ Below w.heap.size w wx)
  case first =>
    have hks : K5 = 0 ∨ K5 = 1 ∨ K5 = 2 ∨ K5 = 3 ∨ K5 = 4 := by omega
    clear hK52
    rcases hks with rfl | rfl | rfl | rfl | rfl
    · go_wp2_with (at_builtin; refine wpList_append_rd _ rfl (.tmp 20) (.tmp 25) 36 rfl w.heap.size 5 i0 _ 1 1 Try.underlying36 hi hz0 hz1 hz2 rfl (by omega) (some w.heap.size) 1 1 [.int .u8 27] rfl (Own.lit (by (repeat (first | (with_reducible assumption) | (with_reducible apply bs_same) | (with_reducible apply bs_far; case hp => (dsimp only; omega)) | (with_reducible apply bs_drew) | (with_reducible apply bs_drewN) | (with_reducible apply bs_new; (first | (with_reducible rfl) | (simp; done))) | (with_reducible apply bs_alloc) | (with_reducible apply bs_below; (case hb => with_reducible assumption); (case hB => first | omega | (simp; omega) | (simp; done)))))) rfl (Nat.le_refl _) (by unfold maxLen; omega)) (some ⟨_, 0, none⟩) 1 1 [.int .u8 93] rfl rfl (rd_block (cs := #[.int .u8 93]) (t := 5) (fr := (0, 0)) (by rw [show w.heap.size + 1 = (w.alloc (.cells #[.int .u8 27] 5)).heap.size by simp]; exact bs_new rfl) rfl) (by intro u hu; simp at hu; subst hu; rfl) (by unfold maxLen; omega) (by omega) (by simp; omega) ?_; intro lb8 cap8 w8 hO8 hg8 hat8; obtain ⟨o8, ho8⟩ := sl_to lb8 (1 + 1) cap8; have H8 := hide ho8; have HO8 := hide hO8; have HG8 := hide hg8; clear hO8 hg8 ho8)
      go_meet
      exact ⟨0, lb8, cap8, by omega, rfl, HO8.out, below_grown (be_alloc (be_alloc (be_refl _) (Nat.le_refl _)) (by simp)) (by simp; omega) HG8.out (fun b e => by cases e; exact Nat.le_refl _)⟩
    · go_wp2_with (at_builtin; refine wpList_append_rd _ rfl (.tmp 20) (.tmp 25) 36 rfl w.heap.size 5 i0 _ 1 1 Try.underlying36 hi hz0 hz1 hz2 rfl (by omega) (some w.heap.size) 1 1 [.int .u8 27] rfl (Own.lit (by (repeat (first | (with_reducible assumption) | (with_reducible apply bs_same) | (with_reducible apply bs_far; case hp => (dsimp only; omega)) | (with_reducible apply bs_drew) | (with_reducible apply bs_drewN) | (with_reducible apply bs_new; (first | (with_reducible rfl) | (simp; done))) | (with_reducible apply bs_alloc) | (with_reducible apply bs_below; (case hb => with_reducible assumption); (case hB => first | omega | (simp; omega) | (simp; done)))))) rfl (Nat.le_refl _) (by unfold maxLen; omega)) (some ⟨_, 0, none⟩) 1 1 [.int .u8 80] rfl rfl (rd_block (cs := #[.int .u8 80]) (t := 5) (fr := (0, 0)) (by rw [show w.heap.size + 1 = (w.alloc (.cells #[.int .u8 27] 5)).heap.size by simp]; exact bs_new rfl) rfl) (by intro u hu; simp at hu; subst hu; rfl) (by unfold maxLen; omega) (by omega) (by simp; omega) ?_; intro lb8 cap8 w8 hO8 hg8 hat8; obtain ⟨o8, ho8⟩ := sl_to lb8 (1 + 1) cap8; have H8 := hide ho8; have HO8 := hide hO8; have HG8 := hide hg8; clear hO8 hg8 ho8)
      go_meet
      exact ⟨1, lb8, cap8, by omega, rfl, HO8.out, below_grown (be_alloc (be_alloc (be_refl _) (Nat.le_refl _)) (by simp)) (by simp; omega) HG8.out (fun b e => by cases e; exact Nat.le_refl _)⟩
    · go_wp2_with (at_builtin; refine wpList_append_rd _ rfl (.tmp 20) (.tmp 25) 36 rfl w.heap.size 5 i0 _ 1 1 Try.underlying36 hi hz0 hz1 hz2 rfl (by omega) (some w.heap.size) 1 1 [.int .u8 27] rfl (Own.lit (by (repeat (first | (with_reducible assumption) | (with_reducible apply bs_same) | (with_reducible apply bs_far; case hp => (dsimp only; omega)) | (with_reducible apply bs_drew) | (with_reducible apply bs_drewN) | (with_reducible apply bs_new; (first | (with_reducible rfl) | (simp; done))) | (with_reducible apply bs_alloc) | (with_reducible apply bs_below; (case hb => with_reducible assumption); (case hB => first | omega | (simp; omega) | (simp; done)))))) rfl (Nat.le_refl _) (by unfold maxLen; omega)) (some ⟨_, 0, none⟩) 1 1 [.int .u8 88] rfl rfl (rd_block (cs := #[.int .u8 88]) (t := 5) (fr := (0, 0)) (by rw [show w.heap.size + 1 = (w.alloc (.cells #[.int .u8 27] 5)).heap.size by simp]; exact bs_new rfl) rfl) (by intro u hu; simp at hu; subst hu; rfl) (by unfold maxLen; omega) (by omega) (by simp; omega) ?_; intro lb8 cap8 w8 hO8 hg8 hat8; obtain ⟨o8, ho8⟩ := sl_to lb8 (1 + 1) cap8; have H8 := hide ho8; have HO8 := hide hO8; have HG8 := hide hg8; clear hO8 hg8 ho8)
      go_meet
      exact ⟨2, lb8, cap8, by omega, rfl, HO8.out, below_grown (be_alloc (be_alloc (be_refl _) (Nat.le_refl _)) (by simp)) (by simp; omega) HG8.out (fun b e => by cases e; exact Nat.le_refl _)⟩
    · go_wp2_with (at_builtin; refine wpList_append_rd _ rfl (.tmp 20) (.tmp 25) 36 rfl w.heap.size 5 i0 _ 1 1 Try.underlying36 hi hz0 hz1 hz2 rfl (by omega) (some w.heap.size) 1 1 [.int .u8 27] rfl (Own.lit (by (repeat (first | (with_reducible assumption) | (with_reducible apply bs_same) | (with_reducible apply bs_far; case hp => (dsimp only; omega)) | (with_reducible apply bs_drew) | (with_reducible apply bs_drewN) | (with_reducible apply bs_new; (first | (with_reducible rfl) | (simp; done))) | (with_reducible apply bs_alloc) | (with_reducible apply bs_below; (case hb => with_reducible assumption); (case hB => first | omega | (simp; omega) | (simp; done)))))) rfl (Nat.le_refl _) (by unfold maxLen; omega)) (some ⟨_, 0, none⟩) 1 1 [.int .u8 94] rfl rfl (rd_block (cs := #[.int .u8 94]) (t := 5) (fr := (0, 0)) (by rw [show w.heap.size + 1 = (w.alloc (.cells #[.int .u8 27] 5)).heap.size by simp]; exact bs_new rfl) rfl) (by intro u hu; simp at hu; subst hu; rfl) (by unfold maxLen; omega) (by omega) (by simp; omega) ?_; intro lb8 cap8 w8 hO8 hg8 hat8; obtain ⟨o8, ho8⟩ := sl_to lb8 (1 + 1) cap8; have H8 := hide ho8; have HO8 := hide hO8; have HG8 := hide hg8; clear hO8 hg8 ho8)
      go_meet
      exact ⟨3, lb8, cap8, by omega, rfl, HO8.out, below_grown (be_alloc (be_alloc (be_refl _) (Nat.le_refl _)) (by simp)) (by simp; omega) HG8.out (fun b e => by cases e; exact Nat.le_refl _)⟩
    · go_wp2_with (at_builtin; refine wpList_append_rd _ rfl (.tmp 20) (.tmp 25) 36 rfl w.heap.size 5 i0 _ 1 1 Try.underlying36 hi hz0 hz1 hz2 rfl (by omega) (some w.heap.size) 1 1 [.int .u8 27] rfl (Own.lit (by (repeat (first | (with_reducible assumption) | (with_reducible apply bs_same) | (with_reducible apply bs_far; case hp => (dsimp only; omega)) | (with_reducible apply bs_drew) | (with_reducible apply bs_drewN) | (with_reducible apply bs_new; (first | (with_reducible rfl) | (simp; done))) | (with_reducible apply bs_alloc) | (with_reducible apply bs_below; (case hb => with_reducible assumption); (case hB => first | omega | (simp; omega) | (simp; done)))))) rfl (Nat.le_refl _) (by unfold maxLen; omega)) (some ⟨_, 0, none⟩) 1 1 [.int .u8 95] rfl rfl (rd_block (cs := #[.int .u8 95]) (t := 5) (fr := (0, 0)) (by rw [show w.heap.size + 1 = (w.alloc (.cells #[.int .u8 27] 5)).heap.size by simp]; exact bs_new rfl) rfl) (by intro u hu; simp at hu; subst hu; rfl) (by unfold maxLen; omega) (by omega) (by simp; omega) ?_; intro lb8 cap8 w8 hO8 hg8 hat8; obtain ⟨o8, ho8⟩ := sl_to lb8 (1 + 1) cap8; have H8 := hide ho8; have HO8 := hide hO8; have HG8 := hide hg8; clear hO8 hg8 ho8)
      go_meet
      exact ⟨4, lb8, cap8, by omega, rfl, HO8.out, below_grown (be_alloc (be_alloc (be_refl _) (Nat.le_refl _)) (by simp)) (by simp; omega) HG8.out (fun b e => by cases e; exact Nat.le_refl _)⟩
  case rest =>
    obtain ⟨k, lb0, cap0, hk4, rfl, hO0, hB0⟩ := hcut
    have HO0 := hide hO0
    have HB0 := hide hB0
    clear hO0 hB0 hK5 hK52
    go_wp2
    go_loopw [7, 29] (fun v7 v29 wr => ∃ (j : Nat) (bs : List Int) (lb : Option Nat) (cap : Nat), j ≤ L ∧ v29 = .int .i64 (j : Int) ∧ v7 = sl lb bs.length cap ∧ bs = [27, strC k] ++ (r.take j).filter keepB ∧ bs.length ≤ 2 + j ∧ Own wr w.heap.size 5 1 lb bs.length cap (bs.map (.int .u8)) ∧ Below w.heap.size w wr) (fun v7 v29 _ => (L - intOf v29).toNat)
    case atStart => exact ⟨0, [27, strC k], lb0, cap0, Nat.zero_le _, rfl, rfl, rfl, Nat.le_refl _, HO0.out, HB0.out⟩
    case round =>
      obtain ⟨j, bs, lb, cap, hj, rfl, rfl, hbs, hbl, hO, hB⟩ := hrel
      obtain ⟨n, hn⟩ : ∃ n, bs.length = n := ⟨_, rfl⟩
      rw [hn] at hO hbl ⊢
      obtain ⟨ob, hob⟩ := sl_to lb n cap
      rw [hob]
      have HOB := hide hob
      have HO := hide hO
      have HB := hide hB
      have HN := hide (And.intro hn hbl)
      have HBS := hide hbs
      have hBs := hB.size
      clear hob hO hn hbs HO0 HB0
      by_cases hjl : j < L
      · have r1 : ((j : Int) < (L : Int)) = True := eq_true (by omega)
        have r1' : (j : Int) < (L : Int) := by omega
        have r0 : (0 : Int) ≤ (j : Int) := by omega
        obtain ⟨x, hx⟩ : ∃ x, r[j]? = some x := ⟨_, List.getElem?_eq_getElem (by have := HL.out; omega)⟩
        obtain ⟨ad, e1, _, hcx⟩ := (R0.out.below (be_call hB (Nat.le_refl _) (be_refl w))).at_ j (.int .u8 x) (by simp [hx])
        subst e1
        have hsn := filter_snoc r j x hx
        have HJ := hide hjl
        have hskip : keepB x = false → bs = [27, strC k] ++ (r.take (j + 1)).filter keepB := fun h => by rw [hsn, h]; simpa using HBS.out
        have HSK := hide hskip
        have hadd : keepB x = true → bs ++ [x] = [27, strC k] ++ (r.take (j + 1)).filter keepB := fun h => by rw [hsn, if_pos h, HBS.out, List.append_assoc]
        have HAD := hide hadd
        clear hx hjl hj hbl hsn hskip hadd
        have hsplit : x = 7 ∨ x = 24 ∨ x = 26 ∨ x = 27 ∨ (x ≠ 7 ∧ x ≠ 24 ∧ x ≠ 26 ∧ x ≠ 27) := by omega
        rcases hsplit with rfl | rfl | rfl | rfl | ⟨e1, e2, e3, e4⟩
        iterate 4
          · go_wp2
            exact ⟨⟨j + 1, bs, lb, cap, by have := HJ.out; omega, by simp, by rw [HN.out.1, HOB.out], HSK.out rfl, by rw [HN.out.1]; have := HN.out.2; omega, by rw [HN.out.1]; exact HO.out, HB.out⟩, by simp only [intOf]; have := HJ.out; omega⟩
        · have b1 : (x != 7) = true := by simp [e1]
          have b2 : (x != 24) = true := by simp [e2]
          have b3 : (x != 26) = true := by simp [e3]
          have b4 : (x != 27) = true := by simp [e4]
          have b5 : (x == 7) = false := by simp [e1]
          have b6 : (x == 24) = false := by simp [e2]
          have b7 : (x == 26) = false := by simp [e3]
          have b8 : (x == 27) = false := by simp [e4]
          have hkx : keepB x = true := by simp [keepB, e1, e2, e3, e4]
          have HKX := hide hkx
          have hnb : n ≤ 302 := by have := HN.out.2; have := HJ.out; omega
          clear hkx e1 e2 e3 e4
          go_wp2_with (at_builtin; rw [← HOB.out]; refine wpList_append_rd _ rfl (.tmp 47) (.tmp 49) 36 rfl w.heap.size 5 i0 _ 1 1 Try.underlying36 hi hz0 hz1 hz2 rfl (by omega) lb n cap (bs.map (.int .u8)) rfl (HO.out.alloc _) (some ⟨_, 0, none⟩) 1 1 [.int .u8 x] rfl (by simp) (rd_block (bs_new rfl) rfl) (by intro u hu; simp at hu; subst hu; rfl) (by unfold maxLen; omega) (by omega) (by simp; omega) ?_; intro lb8 cap8 w8 hO8 hg8 hat8; obtain ⟨o8, ho8⟩ := sl_to lb8 (n + 1) cap8; rw [ho8]; have HO8 := hide hO8; have H8 := hide ho8; have HG8 := hide hg8; clear hO8 ho8 hg8)
          have hlbb : ∀ b, lb = some b → w.heap.size ≤ b := fun b e => by have h := HO.out; rw [e] at h; exact (own_base h).1
          have hlen : (bs ++ [x]).length = n + 1 := by rw [List.length_append, HN.out.1]; rfl
          refine ⟨⟨j + 1, bs ++ [x], lb8, cap8, by have := HJ.out; omega, by simp, by rw [hlen, H8.out], HAD.out HKX.out, by rw [hlen]; have := HN.out.2; omega, ?_, below_grown (be_alloc HB.out HB.out.size) (by simp; omega) HG8.out hlbb⟩, by simp only [intOf]; have := HJ.out; omega⟩
          rw [hlen, List.map_append]
          exact HO8.out
      · have r1 : ((j : Int) < (L : Int)) = False := eq_false (by omega)
        have hjL : j = L := by omega
        have hfd : feedP e0 bs = (strE, []) := by rw [HBS.out]; exact feed_string k hk4 _
        have hok : ∀ x ∈ bs, 0 ≤ x ∧ x ≤ 255 := fun x hx => by
          rw [HBS.out] at hx
          rcases List.mem_append.1 hx with h | h
          · have hk' : k = 0 ∨ k = 1 ∨ k = 2 ∨ k = 3 ∨ k = 4 := by omega
            rcases hk' with rfl | rfl | rfl | rfl | rfl <;> simp [strC] at h <;> omega
          · exact HBR.out x (List.mem_of_mem_take (List.mem_filter.1 h).1)
        have HFD := hide hfd
        have HOK := hide hok
        have hn300 : n ≤ 302 := by omega
        have hob2 : ob = lb.map fun b => ⟨b, 0, none⟩ := by have h := HOB.out; simp [sl] at h; exact h.symm
        have HRD := hide (show Rd wr 0 ob (bs.map (.int .u8)) by rw [hob2]; exact (Rd.of HO.out).lower (Nat.zero_le _))
        clear hfd hok hob2 hj hjl hjL
        go_upto_region 13 with (go_at_call 11; (with_reducible refine (feedS bs HOK.out (by have := HN.out.1; omega) n HN.out.1 HFD.out ob cap _ ?hr).mono ?_); (case hr => exact HRD.out); rintro e w8 ⟨A1, q1, cap1, o1, rfl, hb8⟩; have hz8 := hb8.size; (try simp at hz8))
        refine wp_letter (fun W => W.heap[w8.heap.size]? = some (.cells #[.int .i64 3, .int .i64 0, .int .i64 0, .int .i64 0, .slice A1 0 q1, .int .i64 0, .bool false, .bool false] 33 (0, 0)) ∧ Below w.heap.size w W) ⟨?_, ?_⟩ ?_
        · (apply bs_eq; (case h => (repeat (first | (with_reducible assumption) | (with_reducible apply bs_same) | (with_reducible apply bs_far; case hp => (dsimp only; omega)) | (with_reducible apply bs_drew) | (with_reducible apply bs_drewN) | (with_reducible apply bs_new; (first | (with_reducible rfl) | (simp; done))) | (with_reducible apply bs_alloc) | (with_reducible apply bs_below; (case hb => with_reducible assumption); (case hB => first | omega | (simp; omega) | (simp; done)))))); (case e => rfl))
        · have := HB.out; (repeat (first | (with_reducible assumption) | with_reducible exact be_refl _ | (with_reducible refine be_set ?_ (by dsimp only; omega)) | (with_reducible apply be_drew) | (with_reducible apply be_drewN) | (with_reducible refine be_alloc ?_ (by first | omega | (simp; omega) | simp)) | (with_reducible refine be_call (by with_reducible assumption) (by first | omega | (simp; omega) | simp) ?_)))
        obtain ⟨G1, hG1⟩ : ∃ G, G = w8.heap.size := ⟨_, rfl⟩
        rw [← hG1]
        clear hG1 hb8 hz8 HRD HO HB hB hBs hbl
        rintro M ⟨kG, hB⟩
        have HK := hide kG
        have HB0 := hide hB
        have hBs := hB.size
        clear hB
        obtain ⟨B0, hB0⟩ : ∃ B0, B0 = w.heap.size := ⟨_, rfl⟩
        refine wp_region_float (n := 18) (ex := 16) _ (G13 A1 q1 fin K6 B0) (fun W => W.heap[G1]? = some (.cells #[.int .i64 3, .int .i64 0, .int .i64 0, .int .i64 0, .slice A1 0 q1, .int .i64 0, .bool false, .bool false] 33 (0, 0)) ∧ Below w.heap.size w W) (by kernel_rfl) (by kernel_rfl) ⟨bs_drew HK.out, be_drew HB0.out⟩ (fun _ d _ _ _ h => by cases d <;> exact h) (fun i v w1 w2 _ _ hb h => h.below hb) ?_ ?_ ?_
        · intro oi hoi a W vs hBW hdep
          simp at hoi
          subst hoi
          have d14 := hdep 14 (mem_dep (by kernel_rfl))
          obtain ⟨A, c, o, cap, hv⟩ := d14.1
          have e14 : a.tmps.getD 66 undef = .tuple #[esA 0 A c, .slice o 0 cap] := (d14.2 66 rfl (by simp)).trans hv
          refine ⟨.slice o 0 cap, .inl ⟨rfl, fun w9 => ?_⟩, ?_⟩
          · rw [Array.getD_eq_getD_getElem?] at e14
            go_simp
          · exact ⟨o, cap, rfl⟩
        · intro i hi18 o ho a W vs K hBW hdep hfr hK
          obtain ⟨hG, hBb⟩ := hBW
          have hal : ∀ ob : Obj, (W.alloc ob).heap[G1]? = some (.cells #[.int .i64 3, .int .i64 0, .int .i64 0, .int .i64 0, .slice A1 0 q1, .int .i64 0, .bool false, .bool false] 33 (0, 0)) ∧ Below w.heap.size w (W.alloc ob) := fun ob => ⟨bs_alloc hG, be_alloc hBb hBb.size⟩
          match i, hi18 with
          | 0, _ =>
            simp at ho
            subst ho
            have e10 : a.tmps.getD 10 undef = .pointer (some ⟨G1, 0, none⟩) := hfr 10 (no_dst (by kernel_rfl))
            obtain ⟨x0, x1, x2, x3, x4, x5, x6, x7, _⟩ := cells8 hG
            unfold Oper.wp
            go_simp
            exact hK _ W (be_refl W) ⟨hG, hBb⟩ rfl
          | 1, _ =>
            simp at ho
            subst ho
            unfold Oper.wp
            go_simp
            exact hK _ _ (be_alloc (be_refl _) (Nat.le_refl _)) (hal _) ⟨W.heap.size, rfl, bs_new rfl⟩
          | 2, _ =>
            simp at ho
            subst ho
            unfold Oper.wp
            go_simp
            exact hK _ _ (be_alloc (be_refl _) (Nat.le_refl _)) (hal _) ⟨W.heap.size, rfl, bs_new rfl⟩
          | 3, _ =>
            simp at ho
            subst ho
            unfold Oper.wp
            go_simp
            exact hK _ _ (be_alloc (be_refl _) (Nat.le_refl _)) (hal _) ⟨W.heap.size, rfl, bs_new rfl⟩
          | 4, _ =>
            simp at ho
            subst ho
            unfold Oper.wp
            go_simp
            exact hK _ _ (be_alloc (be_refl _) (Nat.le_refl _)) (hal _) ⟨W.heap.size, rfl, bs_new rfl⟩
          | 5, _ =>
            simp at ho
            subst ho
            unfold Oper.wp
            go_simp
            exact hK _ _ (be_alloc (be_refl _) (Nat.le_refl _)) (hal _) ⟨W.heap.size, rfl, bs_new rfl⟩
          | 6, _ =>
            simp at ho
            subst ho
            unfold Oper.wp
            go_simp
            exact hK _ _ (be_alloc (be_refl _) (Nat.le_refl _)) (hal _) ⟨W.heap.size, rfl, bs_new rfl⟩
          | 8, _ =>
            simp at ho
            subst ho
            have e2 : a.tmps.getD 2 undef = .int .i64 fin := hfr 2 (no_dst (by kernel_rfl))
            unfold Oper.wp
            go_simp
            exact hK _ W (be_refl W) ⟨hG, hBb⟩ rfl
          | 9, _ =>
            simp at ho
            subst ho
            have d8 := hdep 8 (mem_dep (by kernel_rfl))
            have e8 : a.tmps.getD 75 undef = .int .i64 fin := (d8.2 75 rfl (by simp)).trans d8.1
            unfold Oper.wp
            go_simp
            exact hK _ W (be_refl W) ⟨hG, hBb⟩ rfl
          | 7, _ =>
            simp at ho
            subst ho
            have d1 := hdep 1 (mem_dep (by kernel_rfl))
            obtain ⟨b1, w1, r1⟩ := d1.1
            have e1 : a.tmps.getD 68 undef = .slice (some ⟨b1, 0, none⟩) 1 1 := (d1.2 68 rfl (by simp)).trans w1
            have d2 := hdep 2 (mem_dep (by kernel_rfl))
            obtain ⟨b2, w2, r2⟩ := d2.1
            have e2 : a.tmps.getD 69 undef = .slice (some ⟨b2, 0, none⟩) 1 1 := (d2.2 69 rfl (by simp)).trans w2
            have d3 := hdep 3 (mem_dep (by kernel_rfl))
            obtain ⟨b3, w3, r3⟩ := d3.1
            have e3 : a.tmps.getD 70 undef = .slice (some ⟨b3, 0, none⟩) 1 1 := (d3.2 70 rfl (by simp)).trans w3
            have d4 := hdep 4 (mem_dep (by kernel_rfl))
            obtain ⟨b4, w4, r4⟩ := d4.1
            have e4 : a.tmps.getD 71 undef = .slice (some ⟨b4, 0, none⟩) 2 2 := (d4.2 71 rfl (by simp)).trans w4
            have d5 := hdep 5 (mem_dep (by kernel_rfl))
            obtain ⟨b5, w5, r5⟩ := d5.1
            have e5 : a.tmps.getD 72 undef = .slice (some ⟨b5, 0, none⟩) 3 3 := (d5.2 72 rfl (by simp)).trans w5
            have d6 := hdep 6 (mem_dep (by kernel_rfl))
            obtain ⟨b6, w6, r6⟩ := d6.1
            have e6 : a.tmps.getD 73 undef = .slice (some ⟨b6, 0, none⟩) 3 3 := (d6.2 73 rfl (by simp)).trans w6
            rw [Array.getD_eq_getD_getElem?] at e1 e2 e3 e4 e5 e6
            unfold Oper.wp
            go_simp
            have hbb : Below W.heap.size W (W.alloc (.cells #[.slice (some ⟨b1, 0, none⟩) 1 1, .slice (some ⟨b2, 0, none⟩) 1 1, .slice (some ⟨b3, 0, none⟩) 1 1, .slice (some ⟨b4, 0, none⟩) 2 2, .slice (some ⟨b5, 0, none⟩) 3 3, .slice (some ⟨b6, 0, none⟩) 3 3] 36)) := be_alloc (be_refl _) (Nat.le_refl _)
            refine hK _ _ hbb (hal _) ⟨W.heap.size, rfl, _, bs_new rfl, fun k hk => ?_⟩
            have hk' : k = 0 ∨ k = 1 ∨ k = 2 ∨ k = 3 ∨ k = 4 ∨ k = 5 := by omega
            rcases hk' with rfl | rfl | rfl | rfl | rfl | rfl
            · exact ⟨_, rfl, b1, rfl, at_below hbb r1⟩
            · exact ⟨_, rfl, b2, rfl, at_below hbb r2⟩
            · exact ⟨_, rfl, b3, rfl, at_below hbb r3⟩
            · exact ⟨_, rfl, b4, rfl, at_below hbb r4⟩
            · exact ⟨_, rfl, b5, rfl, at_below hbb r5⟩
            · exact ⟨_, rfl, b6, rfl, at_below hbb r6⟩
          | 10, _ =>
            simp at ho
            subst ho
            have d9 := hdep 9 (mem_dep (by kernel_rfl))
            have e9 : a.tmps.getD 76 undef = .int .i64 (Go.bits .and .i64 fin 255) := (d9.2 76 rfl (by simp)).trans d9.1
            have hk6 := HK6.out.1
            unfold Oper.wp
            go_simp
            exact hK _ W (be_refl W) ⟨hG, hBb⟩ rfl
          | 17, _ =>
            simp at ho
            subst ho
            unfold Oper.wp
            go_simp
            exact hK _ _ (be_alloc (be_refl _) (Nat.le_refl _)) (hal _) ⟨W.heap.size, rfl, by rw [hB0]; exact hBb.size, bs_new rfl⟩
          | 14, _ =>
            simp at ho
            subst ho
            have d13 := hdep 13 (mem_dep (by kernel_rfl))
            obtain ⟨A, c, o, cap, hv⟩ := d13.1
            have e13 : a.tmps.getD 80 undef = .tuple #[esA 0 A c, .slice o 0 cap] := (d13.2 80 rfl (by simp)).trans hv
            unfold Oper.wp
            go_simp
            exact hK _ W (be_refl W) ⟨hG, hBb⟩ ⟨A, c, o, cap, rfl⟩
          | 15, _ =>
            simp at ho
            subst ho
            have d14 := hdep 14 (mem_dep (by kernel_rfl))
            obtain ⟨A, c, o, cap, hv⟩ := d14.1
            have e14 : a.tmps.getD 66 undef = .tuple #[esA 0 A c, .slice o 0 cap] := (d14.2 66 rfl (by simp)).trans hv
            rw [Array.getD_eq_getD_getElem?] at e14
            unfold Oper.wp
            go_simp
            exact hK _ W (be_refl W) ⟨hG, hBb⟩ ⟨A, c, rfl⟩
          | 16, _ =>
            simp at ho
            subst ho
            have d14 := hdep 14 (mem_dep (by kernel_rfl))
            obtain ⟨A, c, o, cap, hv⟩ := d14.1
            have e14 : a.tmps.getD 66 undef = .tuple #[esA 0 A c, .slice o 0 cap] := (d14.2 66 rfl (by simp)).trans hv
            rw [Array.getD_eq_getD_getElem?] at e14
            unfold Oper.wp
            go_simp
            exact hK _ W (be_refl W) ⟨hG, hBb⟩ ⟨o, cap, rfl⟩
          | 11, _ =>
            simp at ho
            subst ho
            have d7 := hdep 7 (mem_dep (by kernel_rfl))
            have d10 := hdep 10 (mem_dep (by kernel_rfl))
            obtain ⟨b, hv, hT⟩ := d7.1
            have e7 : a.tmps.getD 74 undef = .slice (some ⟨b, 0, none⟩) 6 6 := (d7.2 74 rfl (by simp)).trans hv
            have e10 : a.tmps.getD 77 undef = .int .i64 (K6 : Int) := (d10.2 77 rfl (by simp)).trans d10.1
            rw [Array.getD_eq_getD_getElem?] at e7 e10
            have k1 : (K6 : Int) < 6 := by have := HK6.out.2; omega
            have k2 : (0 : Int) ≤ (K6 : Int) := by omega
            unfold Oper.wp
            go_simp
            exact hK _ W (be_refl W) ⟨hG, hBb⟩ ⟨b, rfl, hT⟩
          | 12, _ =>
            simp at ho
            subst ho
            have d11 := hdep 11 (mem_dep (by kernel_rfl))
            obtain ⟨b, hv, cs, hcs, hT⟩ := d11.1
            have e11 : a.tmps.getD 78 undef = .pointer (some ⟨b, K6, none⟩) := (d11.2 78 rfl (by simp)).trans hv
            rw [Array.getD_eq_getD_getElem?] at e11
            obtain ⟨u, hu, hR⟩ := hT K6 HK6.out.2
            have hc : W.cell? ⟨b, K6, none⟩ = some u := (cell_of hcs K6).trans hu
            obtain ⟨bu, hub, hrow⟩ := hR
            subst hub
            unfold Oper.wp
            go_simp
            exact hK _ W (be_refl W) ⟨hG, hBb⟩ ⟨bu, rfl, hrow⟩
          | 13, _ =>
            simp at ho
            subst ho
            have d0 := hdep 0 (mem_dep (by kernel_rfl))
            have d12 := hdep 12 (mem_dep (by kernel_rfl))
            obtain ⟨bu, hub, hrow⟩ := d12.1
            have e0 : a.tmps.getD 67 undef = esA 3 A1 q1 := (d0.2 67 rfl (by simp)).trans d0.1
            have e12 : a.tmps.getD 79 undef = .slice (some ⟨bu, 0, none⟩) (endL K6).length (endL K6).length := (d12.2 79 rfl (by simp)).trans hub
            rw [Array.getD_eq_getD_getElem?] at e0 e12
            have hk5 : K6 ≤ 5 := HK6.out.2
            unfold esA at e0
            go_simp
            (go_at_call 11; refine (feedT (endL K6) (by intro x hx; have h : K6 = 0 ∨ K6 = 1 ∨ K6 = 2 ∨ K6 = 3 ∨ K6 = 4 ∨ K6 = 5 := (by omega); rcases h with rfl | rfl | rfl | rfl | rfl | rfl <;> simp [endL] at hx <;> omega) (by have h : K6 = 0 ∨ K6 = 1 ∨ K6 = 2 ∨ K6 = 3 ∨ K6 = 4 ∨ K6 = 5 := (by omega); rcases h with rfl | rfl | rfl | rfl | rfl | rfl <;> simp [endL]) _ rfl (feed_end K6 hk5) A1 q1 _ _ W (rd_block hrow rfl)).mono ?_; rintro e W9 ⟨A, c, cap, o, rfl, hb9⟩)
            go_wp2_with fail
            exact hK _ W9 hb9 ⟨bs_below hb9 (bs_lt hG) hG, be_call hb9 hBb.size hBb⟩ ⟨A, c, o, cap, rfl⟩
          | n + 18, h => exact absurd h (by omega)
        · intro vs W hBW hG
          obtain ⟨hG0, hBb⟩ := hBW
          obtain ⟨A2, c2, hv15⟩ := hG 15 (by omega)
          obtain ⟨o2, cap2, hv16⟩ := hG 16 (by omega)
          obtain ⟨b17, hv17, hb17, hc17⟩ := hG 17 (by omega)
          rw [hB0] at hb17
          clear hG hG0
          change wpList _ _ _ _ (putAll _ [(some 67, vs 0), (some 68, vs 1), (some 69, vs 2), (some 70, vs 3), (some 71, vs 4), (some 72, vs 5), (some 73, vs 6), (some 74, vs 7), (some 75, vs 8), (some 76, vs 9), (some 77, vs 10), (some 78, vs 11), (some 79, vs 12), (some 80, vs 13), (some 66, vs 14), (some 81, vs 15), (some 82, vs 16), (some 12, vs 17)]) W
          rw [hv15, hv16, hv17]
          clear hv15 hv16 hv17
          generalize vs 0 = q0
          generalize vs 1 = q1
          generalize vs 2 = q2
          generalize vs 3 = q3
          generalize vs 4 = q4
          generalize vs 5 = q5
          generalize vs 6 = q6
          generalize vs 7 = q7
          generalize vs 8 = q8
          generalize vs 9 = q9
          generalize vs 10 = q10
          generalize vs 11 = q11
          generalize vs 12 = q12
          generalize vs 13 = q13
          generalize vs 14 = q14
          unfold esZ at hc17
          unfold esA
          simp only [Facts.putAll, Go.Act.put]
          have sG := bs_lt hc17
          obtain ⟨x0, x1, x2, x3, x4, x5, x6, x7, _⟩ := cells8 hc17
          go_upto_region 14 with fail
          refine wp_letter (fun W => W.heap[b17]? = some (.cells #[.int .i64 0, .int .i64 0, .int .i64 0, .int .i64 0, .slice A2 0 c2, .int .i64 0, .bool false, .bool false] 33 (0, 0)) ∧ Below w.heap.size w W) ⟨st8_cells hc17 _ _ _ _ _ _ _ _, st8_below hb17 hBb _ _ _ _ _ _ _ _⟩ ?_
          clear x0 x1 x2 x3 x4 x5 x6 x7 sG hc17 hBb
          rintro N ⟨kN, hBN⟩
          have sN := bs_lt kN
          have hNs := hBN.size
          obtain ⟨x0, x1, x2, x3, x4, x5, x6, x7, _⟩ := cells8 kN
          have kc := fun (w : World) (C : Array Value) (n c : Nat) => Lib.run_convert_bytes_const (P := Try.prog) w 36 5 C n c Try.underlying36 Try.underlying5
          go_upto_region 15 with (go_at_call 11; (with_reducible refine (feedA _ _ _ _ _ ?hr).mono ?_); (case hr => exact rd_block (bs_new rfl) rfl); rintro e w9 ⟨A4, c4, cap4, b4, rfl, hR4, hb9⟩; have HR4 := hide hR4; have hz9 := hb9.size; (try simp at hz9); obtain ⟨hc9, hf9⟩ := be_cells hb9; clear hR4)
          refine wp_letter (fun W => W.heap[b17]? = some (.cells #[.int .i64 0, .int .i64 0, .int .i64 0, .int .i64 0, .slice A2 0 c2, .int .i64 0, .bool false, .bool false] 33 (0, 0)) ∧ W.heap[w9.heap.size]? = some (.cells #[.int .i64 0, .int .i64 0, .int .i64 0, .int .i64 0, .slice A4 0 c4, .int .i64 0, .bool false, .bool false] 33 (0, 0)) ∧ Rd W 0 (some ⟨b4, 0, none⟩) [.int .i64 1, .int .i32 97] ∧ Below w.heap.size w W) ⟨?_, ?_, ?_, ?_⟩ ?_
          · (repeat (first | (with_reducible assumption) | (with_reducible apply bs_same) | (with_reducible apply bs_far; case hp => (dsimp only; omega)) | (with_reducible apply bs_drew) | (with_reducible apply bs_drewN) | (with_reducible apply bs_new; (first | (with_reducible rfl) | (simp; done))) | (with_reducible apply bs_alloc) | (with_reducible apply bs_below; (case hb => with_reducible assumption); (case hB => first | omega | (simp; omega) | (simp; done)))))
          · (apply bs_eq; (case h => (repeat (first | (with_reducible assumption) | (with_reducible apply bs_same) | (with_reducible apply bs_far; case hp => (dsimp only; omega)) | (with_reducible apply bs_drew) | (with_reducible apply bs_drewN) | (with_reducible apply bs_new; (first | (with_reducible rfl) | (simp; done))) | (with_reducible apply bs_alloc) | (with_reducible apply bs_below; (case hb => with_reducible assumption); (case hB => first | omega | (simp; omega) | (simp; done)))))); (case e => rfl))
          · exact HR4.out.below (by (repeat (first | (with_reducible assumption) | with_reducible exact be_refl _ | (with_reducible refine be_set ?_ (by dsimp only; omega)) | (with_reducible apply be_drew) | (with_reducible apply be_drewN) | (with_reducible refine be_alloc ?_ (by first | omega | (simp; omega) | simp)) | (with_reducible refine be_call (by with_reducible assumption) (by first | omega | (simp; omega) | simp) ?_))))
          · (repeat (first | (with_reducible assumption) | with_reducible exact be_refl _ | (with_reducible refine be_set ?_ (by dsimp only; omega)) | (with_reducible apply be_drew) | (with_reducible apply be_drewN) | (with_reducible refine be_alloc ?_ (by first | omega | (simp; omega) | simp)) | (with_reducible refine be_call (by with_reducible assumption) (by first | omega | (simp; omega) | simp) ?_)))
          obtain ⟨G4, hG4⟩ : ∃ G, G = w9.heap.size := ⟨_, rfl⟩
          rw [← hG4]
          clear hG4 HR4 hb9 hz9 hc9 hf9 hBN kN sN hNs x0 x1 x2 x3 x4 x5 x6 x7 kc
          rintro M9 ⟨kA, kB, hR, hBM⟩
          have HR := hide hR
          have hMs := hBM.size
          have sA := bs_lt kA
          have sB := bs_lt kB
          clear hR
          obtain ⟨x0, x1, x2, x3, x4, x5, x6, x7, _⟩ := cells8 kA
          obtain ⟨z0, z1, z2, z3, z4, z5, z6, z7, _⟩ := cells8 kB
          go_wp2_with (first
            | (go_at_call 15; (with_reducible refine (sameEsc_zero _ _ _ _ _).mono ?_); rintro e w7 ⟨rfl, hb7⟩; have hz7 := hb7.size; (try simp at hz7); obtain ⟨ad7, e7, _, hc7⟩ := (HR.out.below (by (repeat (first | (with_reducible assumption) | with_reducible exact be_refl _ | (with_reducible refine be_set ?_ (by dsimp only; omega)) | (with_reducible apply be_drew) | (with_reducible apply be_drewN) | (with_reducible refine be_alloc ?_ (by first | omega | (simp; omega) | simp)) | (with_reducible refine be_call (by with_reducible assumption) (by first | omega | (simp; omega) | simp) ?_))))).at_ 1 (.int .i32 97) rfl; cases e7; rw [add_head] at hc7)
            | (go_at_call 13; (with_reducible refine (awake_val _).mono ?_); rintro e w5 ⟨rfl, hb5⟩; have hz5 := hb5.size; (try simp at hz5)))
          go_ret
          exact ⟨rfl, by (repeat (first | (with_reducible assumption) | with_reducible exact be_refl _ | (with_reducible refine be_set ?_ (by dsimp only; omega)) | (with_reducible apply be_drew) | (with_reducible apply be_drewN) | (with_reducible refine be_alloc ?_ (by first | omega | (simp; omega) | simp)) | (with_reducible refine be_call (by with_reducible assumption) (by first | omega | (simp; omega) | simp) ?_)))⟩
end Go.Proofs.Ytiahfgcfgpakiaa.EscaStringsW


