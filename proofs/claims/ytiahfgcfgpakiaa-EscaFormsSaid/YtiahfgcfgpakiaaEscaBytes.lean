/- Bytes of numbers: the law's own pieces of escapes and texts: a contract, for every row of numbers. -/
import Derived.Test.YtiahfgcfgpakiaaEscaSame
import Derived.Lib.AppendStr
namespace Go.Proofs.Ytiahfgcfgpakiaa.EscaVal
open Go Go.RowKit Go.Proofs.YtiahfgcfgpakiaaKit Go.Proofs.Ytiahfgcfgpakiaa.Mem Go.Proofs.YtiahfgcfgpakiaaW.PrintWords Go.Proofs.YtiahfgcfgpakiaaW.PrintLast Go.Proofs.Ytiahfgcfgpakiaa.Split
set_option linter.unusedVariables false
set_option linter.unusedSimpArgs false
def tabB : List ByteArray := [
  ⟨#[97]⟩, ⟨#[98, 99]⟩, ⟨#[13]⟩, ⟨#[10]⟩, ⟨#[9]⟩, ⟨#[8]⟩, ⟨#[27]⟩, ⟨#[91]⟩, ⟨#[93]⟩, ⟨#[65]⟩, ⟨#[66]⟩, ⟨#[67]⟩,
  ⟨#[68]⟩, ⟨#[71]⟩, ⟨#[72]⟩, ⟨#[74]⟩, ⟨#[75]⟩, ⟨#[76]⟩, ⟨#[77]⟩, ⟨#[80]⟩, ⟨#[64]⟩, ⟨#[88]⟩, ⟨#[83]⟩, ⟨#[84]⟩,
  ⟨#[114]⟩, ⟨#[109]⟩, ⟨#[100]⟩, ⟨#[104]⟩, ⟨#[108]⟩, ⟨#[48]⟩, ⟨#[49]⟩, ⟨#[50]⟩, ⟨#[51]⟩, ⟨#[53]⟩, ⟨#[55]⟩, ⟨#[50, 53]⟩,
  ⟨#[51, 49]⟩, ⟨#[52, 52]⟩, ⟨#[57, 57, 57, 57, 57]⟩, ⟨#[59]⟩, ⟨#[63]⟩, ⟨#[24]⟩, ⟨#[26]⟩, ⟨#[7]⟩, ⟨#[27, 92]⟩, ⟨#[27, 91]⟩, ⟨#[27, 91, 63]⟩, ⟨#[27, 91, 50, 59, 51, 72]⟩,
  ⟨#[27, 91, 49, 59, 51, 49, 109]⟩, ⟨#[27, 91, 50, 74]⟩, ⟨#[27, 91, 75]⟩, ⟨#[27, 55]⟩, ⟨#[27, 56]⟩, ⟨#[27, 77]⟩, ⟨#[27, 68]⟩, ⟨#[27, 69]⟩, ⟨#[27, 99]⟩, ⟨#[27, 91, 50, 59, 52, 114]⟩, ⟨#[27, 91, 63, 55, 108]⟩, ⟨#[27, 91, 63, 50, 53, 108]⟩,
  ⟨#[27, 91, 51, 76]⟩, ⟨#[27, 91, 50, 77]⟩, ⟨#[195, 169]⟩, ⟨#[226, 130, 172]⟩, ⟨#[240, 159, 152, 128]⟩, ⟨#[195]⟩, ⟨#[255]⟩, ⟨#[128]⟩, ⟨#[32]⟩, ⟨#[58]⟩, ⟨#[127]⟩, ⟨#[27, 93, 48, 59, 116, 7]⟩,
  ⟨#[27, 80, 113, 27, 92]⟩, ⟨#[27, 40, 66]⟩, ⟨#[194, 133]⟩, ⟨#[104, 101, 108, 108, 111, 44, 32, 119, 111, 114, 108, 100]⟩]
def pick (x : Int) : Int := Int.tmod (Go.bits .and .i64 x 65535) 76
def piece (x : Int) : ByteArray := tabB.getD (pick x).toNat ByteArray.empty
def bytesN (l : List Int) : Nat → List Int
  | 0 => []
  | n + 1 => bytesN l n ++ bytesOf (piece (l.getD n 0))
def bytesP (l : List Int) : List Int := bytesN l (min l.length 60)
theorem pick_ok (x : Int) : ∃ K : Nat, pick x = (K : Int) ∧ K < 76 := by
  have h : 0 ≤ Go.bits .and .i64 x 65535 ∧ Go.bits .and .i64 x 65535 ≤ 65535 := and_range 16 (by omega) x
  unfold pick
  rw [Int.tmod_eq_emod_of_nonneg h.1]
  exact ⟨(Go.bits .and .i64 x 65535 % 76).toNat, by omega, by omega⟩
theorem tab_len : tabB.length = 76 := by kernel_rfl
theorem tab_size : ∀ s ∈ tabB, s.size ≤ 12 := by
  have h : tabB.all (fun s => decide (s.size ≤ 12)) = true := by kernel_rfl
  intro s hs
  exact of_decide_eq_true (List.all_eq_true.1 h s hs)
theorem piece_size (x : Int) : (piece x).size ≤ 12 := by
  obtain ⟨K, h, hk⟩ := pick_ok x
  unfold piece
  rw [h, Int.toNat_natCast, List.getD_eq_getElem?_getD, List.getElem?_eq_getElem (by rw [tab_len]; exact hk)]
  exact tab_size _ (List.getElem_mem _)
theorem bytesOf_len (s : ByteArray) : (bytesOf s).length = s.size := by
  rw [bytesOf, List.length_map, Array.length_toList]
  rfl
theorem bytesOf_ok (s : ByteArray) : ∀ x ∈ bytesOf s, 0 ≤ x ∧ x ≤ 255 := by
  intro x hx
  obtain ⟨b, _, rfl⟩ := List.mem_map.1 hx
  have := b.toNat_lt
  omega
theorem bytesN_ok (l : List Int) (n : Nat) : ∀ x ∈ bytesN l n, 0 ≤ x ∧ x ≤ 255 := by
  induction n with
  | zero => intro x hx; cases hx
  | succ n ih =>
    intro x hx
    rcases List.mem_append.1 hx with h | h
    · exact ih x h
    · exact bytesOf_ok _ x h
theorem bytesN_len (l : List Int) (n : Nat) : (bytesN l n).length ≤ 12 * n := by
  induction n with
  | zero => exact Nat.le_refl _
  | succ n ih =>
    have := piece_size (l.getD n 0)
    simp only [bytesN, List.length_append, bytesOf_len]
    omega
theorem bytesP_ok (l : List Int) : ∀ x ∈ bytesP l, 0 ≤ x ∧ x ≤ 255 := bytesN_ok l _
theorem bytesP_len (l : List Int) : (bytesP l).length ≤ 720 := by
  have := bytesN_len l (min l.length 60)
  unfold bytesP
  omega
theorem strCells_eq (s : ByteArray) : Lib.strCells s = (bytesOf s).map (.int .u8) := by
  unfold Lib.strCells bytesOf
  rw [List.map_map]
  rfl
theorem tab_cell {W : World} {B K : Nat} {t : TypeId} {T : List ByteArray} {S : ByteArray} (h : W.heap[B]? = some (.cells (T.map Value.string).toArray t (0, 0))) (hS : T[K]? = some S) : W.cell? ⟨B, K, none⟩ = some (.string S) := by
  rw [bs_cell h K]
  simp [hS]
theorem piece_get {x : Int} {K : Nat} (h : pick x = (K : Int)) (hk : K < 76) : tabB[K]? = some (piece x) := by
  unfold piece
  rw [h, Int.toNat_natCast, List.getD_eq_getElem?_getD, List.getElem?_eq_getElem (by rw [tab_len]; exact hk)]
  rfl
set_option maxHeartbeats 4000000 in
set_option maxRecDepth 100000 in
theorem bytes_val (l : List Int) (A : Option Addr) (c : Nat) (w : World) (hr : Rd w 0 A (l.map (.int .i64))) :
    Calls Try.prog 16 #[.slice A l.length c] w fun e w' => ∃ (lb : Option Nat) (cap : Nat), e = .returned (sl lb (bytesP l).length cap) ∧ Own w' w.heap.size 5 1 lb (bytesP l).length cap ((bytesP l).map (.int .u8)) ∧ Below w.heap.size w w' := by
  obtain ⟨i0, hi, hz0, hz1, hz2⟩ := info_parts (show (Try.prog.info? 5).map (fun i => (i.zero, i.size, i.bytes)) = some (some (.int .u8 0), 1, 1) by kernel_rfl)
  obtain ⟨L, hL⟩ : ∃ L, L = l.length := ⟨_, rfl⟩
  have HUL := hide hL
  rw [← hL]
  have HR := hide hr
  clear hL hr
  go_enter Try.func16, Try.ntmps16
  go_upto_region 2 with fail
  refine wp_letter (fun W => W.heap[w.heap.size]? = some (.cells (tabB.map Value.string).toArray 9 (0, 0)) ∧ Below w.heap.size w W) ⟨bs_new (by as_aux_lemma => kernel_rfl), by (repeat (first | (with_reducible assumption) | with_reducible exact be_refl _ | (with_reducible refine be_set ?_ (by dsimp only; omega)) | (with_reducible apply be_drew) | (with_reducible apply be_drewN) | (with_reducible refine be_alloc ?_ (by first | omega | (simp; omega) | simp)) | (with_reducible refine be_call (by with_reducible assumption) (by first | omega | (simp; omega) | simp) ?_)))⟩ ?_
  rintro M ⟨hT, hB⟩
  obtain ⟨B, hBB⟩ : ∃ B, B = w.heap.size := ⟨_, rfl⟩
  have HBB := hide hBB
  rw [← hBB] at hT ⊢
  have HT := hide hT
  have HM := hide hB
  clear hT hB hBB
  go_wp2
  go_loopw [4, 5] (fun v4 v5 wr => ∃ (j : Nat) (lb : Option Nat) (cap : Nat), j ≤ L ∧ j ≤ 60 ∧ v5 = .int .i64 (j : Int) ∧ v4 = sl lb (bytesN l j).length cap ∧ Own wr (B + 1) 5 1 lb (bytesN l j).length cap ((bytesN l j).map (.int .u8)) ∧ wr.heap[B]? = some (.cells (tabB.map Value.string).toArray 9 (0, 0)) ∧ Below w.heap.size w wr) (fun v4 v5 _ => (60 - intOf v5).toNat)
  case atStart => exact ⟨0, none, 0, Nat.zero_le _, Nat.zero_le _, rfl, rfl, Own.nil _ _ _ _, HT.out, HM.out⟩
  case round =>
    obtain ⟨j, lb, cap, hj, hj6, rfl, rfl, hO, hT, hB⟩ := hrel
    have hnl := bytesN_len l j
    obtain ⟨n, hn⟩ : ∃ n, n = (bytesN l j).length := ⟨_, rfl⟩
    have HN := hide hn
    rw [← hn] at hO hnl ⊢
    obtain ⟨ob, hob⟩ := sl_to lb n cap
    rw [hob]
    have HOB := hide hob
    have HO := hide hO
    have HTT := hide hT
    have HB := hide hB
    clear hn hob HT HM
    by_cases hgo : j < L ∧ j < 60
    · have r1 : ((j : Int) < (L : Int)) = True := eq_true (by omega)
      have r1' : (j : Int) < (L : Int) := by omega
      have r2 : ((j : Int) < 60) = True := eq_true (by omega)
      have r5 : (j : Int) < 60 := by omega
      have r0 : (0 : Int) ≤ (j : Int) := by omega
      obtain ⟨x, hx⟩ : ∃ x, l[j]? = some x := ⟨_, List.getElem?_eq_getElem (by have := HUL.out; omega)⟩
      obtain ⟨ad, e1, _, hcx⟩ := (HR.out.below (be_call hB (Nat.le_refl _) (be_refl w))).at_ j (.int .i64 x) (by simp [hx])
      subst e1
      obtain ⟨K, hK, hK7⟩ := pick_ok x
      have hgd : l.getD j 0 = x := by rw [List.getD_eq_getElem?_getD, hx]; rfl
      have hps := piece_size x
      obtain ⟨S, hS⟩ : ∃ S, S = piece x := ⟨_, rfl⟩
      have hcell : wr.cell? ⟨B, K, none⟩ = some (.string S) := tab_cell hT (by rw [hS]; exact piece_get hK hK7)
      have hnx : bytesN l (j + 1) = bytesN l j ++ bytesOf S := by rw [hS, ← hgd]; rfl
      have HNX := hide hnx
      rw [← hS] at hps
      have HPS := hide hps
      have hK' : Int.tmod (Go.bits .and .i64 x 65535) 76 = (K : Int) := hK
      have r3 : (0 : Int) ≤ (K : Int) := by omega
      have r4 : (K : Int) < 76 := by omega
      have HG := hide hgo
      have HL := hide hnl
      clear hx hK hgd hS hnx hps hgo hj hj6 hnl hO hT hB
      go_wp2_with (at_builtin; refine Lib.wpList_append_own_string _ rfl (.tmp 17) (.tmp 28) 36 9 rfl (B + 1) 5 i0 Try.underlying36 Try.underlying9 hi hz0 hz1 hz2 (.slice ob n cap) n ((bytesN l j).map (.int .u8)) rfl (by have h := HO.out.owns; rw [HOB.out] at h; exact h) S rfl (by have := HL.out; have := HPS.out; have := HG.out; unfold maxLen; omega) (by have := HL.out; have := HPS.out; have := HG.out; omega) (by have := bs_lt HTT.out; omega) ?_; intro v9 w9 ho9 hg9 _; obtain ⟨lb9, cap9, rfl, hO9⟩ := Own.of ho9; rw [← HOB.out, sl_block] at hg9; have HO9 := hide hO9; have HG9 := hide hg9; obtain ⟨q9, hq9⟩ := sl_to lb9 (n + S.size) cap9; rw [hq9]; have HQ9 := hide hq9; clear ho9 hO9 hg9 hq9)
      have hlb : ∀ b, lb = some b → B + 1 ≤ b := fun b e => by have h := HO.out; rw [e] at h; exact (own_base h).1
      have hlen : (bytesN l (j + 1)).length = n + S.size := by rw [HNX.out, List.length_append, bytesOf_len, HN.out]
      refine ⟨⟨j + 1, lb9, cap9, by have := HG.out; omega, by have := HG.out; omega, by simp, by rw [hlen, HQ9.out], ?_, ?_, ?_⟩, by simp only [intOf]; have := HG.out; omega⟩
      · rw [hlen, HNX.out, List.map_append, ← strCells_eq]
        exact HO9.out
      · rw [HG9.out.block _ (bs_lt HTT.out) (fun e => by have := hlb _ e.symm; omega)]
        exact HTT.out
      · have := HBB.out
        exact below_grown HB.out HB.out.size HG9.out (fun b e => by have := hlb b e; omega)
    · have hcase : (((j : Int) < (L : Int)) = False) ∨ (((j : Int) < (L : Int)) = True ∧ ((j : Int) < 60) = False) := by
        by_cases q : (j : Int) < (L : Int)
        · exact .inr ⟨eq_true q, eq_false (fun q3 => hgo ⟨by omega, by omega⟩)⟩
        · exact .inl (eq_false q)
      have hjm : bytesP l = bytesN l j := by
        unfold bytesP
        congr 1
        have := HUL.out
        omega
      have HJM := hide hjm
      clear hgo hj hj6 hnl hO hT hB hjm
      rcases hcase with r1 | ⟨r1, r2⟩
      all_goals
        go_wp2
        go_ret
        refine ⟨lb, cap, ?_, ?_, HB.out⟩
        · rw [HJM.out, ← HN.out, HOB.out]; rfl
        · rw [HJM.out, ← HN.out]
          exact HO.out.lower (by have := HBB.out; omega)
end Go.Proofs.Ytiahfgcfgpakiaa.EscaVal


