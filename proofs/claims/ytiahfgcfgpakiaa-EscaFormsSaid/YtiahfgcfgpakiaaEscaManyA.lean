/- A number's text, and a byte behind a text's bytes: contracts, for every such. -/
import Derived.Test.YtiahfgcfgpakiaaEscaManyM
namespace Go.Proofs.Ytiahfgcfgpakiaa.EscaVal
open Go Go.RowKit Go.Proofs.YtiahfgcfgpakiaaKit Go.Proofs.Ytiahfgcfgpakiaa.Mem Go.Proofs.YtiahfgcfgpakiaaW.PrintWords Go.Proofs.YtiahfgcfgpakiaaW.PrintLast Go.Proofs.Ytiahfgcfgpakiaa.Split
set_option linter.unusedVariables false
set_option linter.unusedSimpArgs false
theorem one_str {c : Int} (h0 : 0 ≤ c) (h1 : c ≤ 255) : bytesOf (strOfNums [c]) = [c] := by
  have h : c.toNat % 256 = c.toNat := Nat.mod_eq_of_lt (by omega)
  simp [bytesOf, strOfNums, ByteArray.push, ByteArray.empty, ByteArray.emptyWithCapacity, h]
  omega
def strSz (v : Value) : Nat := match v with | .string s => if s.size = 0 then 1 else 0 | _ => 0
theorem size_bytes (B : ByteArray) : (bytesOf B).length = B.size := bytesOf_length B
theorem empty_of {B : ByteArray} (h : B.size = 0) : B = ⟨#[]⟩ := by
  cases B with
  | mk d =>
    congr 1
    exact Array.eq_empty_of_size_eq_zero h
set_option maxHeartbeats 2000000 in
theorem digits_val (n : Nat) (hn : n ≤ 1048575) (w : World) :
    Calls Try.prog 14 #[.int .i64 (n : Int)] w fun e w' => ∃ B : ByteArray, e = .returned (.string B) ∧ Digs (bytesOf B) ∧ bytesOf B ≠ [] ∧ valP 0 (bytesOf B) = (n : Int) ∧ (bytesOf B).length ≤ 7 ∧ Below w.heap.size w w' := by
  have kc := fun (W : World) (c : Int) => own_string (P := Try.prog) (w := W.alloc (.cells #[.int .u8 c] 5)) (base := 0) (n := 1) (e' := 5) (src := 36) (dst := 9) (e := 5) (v := .slice (some ⟨W.heap.size, 0, none⟩) 1 1) (xs := [c]) Try.underlying36 Try.underlying5 Try.underlying9 (Own.lit (b := W.heap.size) (n := 1) (k := 1) (vs := [.int .u8 c]) (bs_new rfl) rfl (Nat.zero_le _) (show (1 : Nat) ≤ maxLen by unfold maxLen; omega)).owns
  go_enter Try.func14, Try.ntmps14
  go_wp2
  go_loopw [0, 3] (fun v0 v3 wr => ∃ (m : Nat) (B : ByteArray), v0 = .int .i64 (m : Int) ∧ v3 = .string B ∧ Digs (bytesOf B) ∧ valP (m : Int) (bytesOf B) = (n : Int) ∧ (bytesOf B).length ≤ 7 ∧ m * 10 ^ (bytesOf B).length ≤ 1048575 ∧ Below w.heap.size w wr) (fun v0 v3 _ => 2 * (intOf v0).toNat + strSz v3)
  case atStart => exact ⟨n, ⟨#[]⟩, rfl, rfl, (fun b hb => by cases hb), rfl, by decide, by simpa [bytesOf] using hn, be_refl _⟩
  case round =>
    obtain ⟨m, B, rfl, rfl, hd, hv, hl, hp, hB⟩ := hrel
    obtain ⟨d, hdd⟩ : ∃ d, m % 10 = d := ⟨_, rfl⟩
    obtain ⟨q, hqq⟩ : ∃ q, m / 10 = q := ⟨_, rfl⟩
    have hmod : Int.tmod (m : Int) 10 = (d : Int) := by rw [Int.tmod_eq_emod_of_nonneg (by omega)]; omega
    have hdiv : Int.tdiv (m : Int) 10 = (q : Int) := by rw [Int.tdiv_eq_ediv_of_nonneg (by omega)]; omega
    have hmL : m ≤ m * 10 ^ (bytesOf B).length := Nat.le_mul_of_pos_right _ (Nat.pow_pos (by decide))
    have hm20 : (m : Int) ≤ 1048575 := by omega
    have hq20 : (q : Int) ≤ 1048575 := by omega
    have hBs := hB.size
    have hqm : q ≤ m := by omega
    have hcat : (9223372036854775807 < (strOfNums [48 + (d : Int)]).size + B.size) = False := eq_false (by rw [strOfNums_size]; have := size_bytes B; simp; omega)
    have hd9 : (d : Int) ≤ 9 := by omega
    have hd0 : (0 : Int) ≤ (d : Int) := by omega
    have hnext : ∀ C : ByteArray, bytesOf C = [48 + (d : Int)] ++ bytesOf B → (0 < m ∨ B.size = 0) → Digs (bytesOf C) ∧ valP (q : Int) (bytesOf C) = (n : Int) ∧ (bytesOf C).length ≤ 7 ∧ q * 10 ^ (bytesOf C).length ≤ 1048575 := fun C hC hm => by
      rw [hC]
      refine ⟨?_, ?_, ?_, ?_⟩
      · intro b hb
        rcases List.mem_append.1 hb with h | h
        · simp at h; omega
        · exact hd b h
      · show valP (10 * (q : Int) + (48 + (d : Int) - 48)) (bytesOf B) = (n : Int)
        rw [show 10 * (q : Int) + (48 + (d : Int) - 48) = (m : Int) by omega]
        exact hv
      · simp only [List.length_append, List.length_cons, List.length_nil]
        rcases hm with hm | hm
        · rcases Nat.lt_or_ge (bytesOf B).length 7 with h | h
          · omega
          · have h10 : 10 ^ 7 ≤ 10 ^ (bytesOf B).length := Nat.pow_le_pow_right (by decide) h
            have h11 : 10 ^ (bytesOf B).length ≤ m * 10 ^ (bytesOf B).length := Nat.le_mul_of_pos_left _ hm
            omega
        · have := size_bytes B
          omega
      · simp only [List.length_append, List.length_cons, List.length_nil]
        have h12 : q * 10 ^ (0 + 1 + (bytesOf B).length) = (q * 10) * 10 ^ (bytesOf B).length := by rw [Nat.zero_add, Nat.add_comm 1, Nat.pow_succ, Nat.mul_assoc, Nat.mul_comm (10 ^ _) 10]
        rw [h12]
        exact Nat.le_trans (Nat.mul_le_mul_right _ (by omega)) hp
    have HNX := hide hnext
    have HD := hide (And.intro hd (And.intro hv hl))
    have HQ := hide (show 0 < m → q < m by omega)
    have HB := hide hB
    clear hnext hdd hqq hd hv hl hp hmL
    by_cases hm : 0 < m
    · have p1 : ((0 : Int) < (m : Int)) = True := eq_true (by omega)
      have p3 : (0 < m) = True := eq_true hm
      go_wp2
      refine ⟨⟨q, strOfNums [48 + (d : Int)] ++ B, by simp, rfl, ?_⟩, ?_⟩
      · have h := HNX.out (strOfNums [48 + (d : Int)] ++ B) (by rw [bytesOf_app, one_str (by omega) (by omega)]) (.inl hm)
        exact ⟨h.1, h.2.1, h.2.2.1, h.2.2.2, by (repeat (first | (with_reducible assumption) | with_reducible exact be_refl _ | (with_reducible refine be_set ?_ (by dsimp only; omega)) | (with_reducible apply be_drew) | (with_reducible apply be_drewN) | (with_reducible refine be_alloc ?_ (by first | omega | (simp; omega) | simp)) | (with_reducible refine be_call (by with_reducible assumption) (by first | omega | (simp; omega) | simp) ?_)))⟩
      · have hs : (strOfNums [48 + (d : Int)] ++ B).size ≠ 0 := by rw [← size_bytes, bytesOf_app, one_str (by omega) (by omega)]; simp
        have := HQ.out hm
        simp only [intOf, strSz, if_neg hs]
        split <;> omega
    · have p1 : ((0 : Int) < (m : Int)) = False := eq_false (by omega)
      have p3 : (0 < m) = False := eq_false hm
      by_cases hs0 : B.size = 0
      · have p2 : (B == (⟨#[]⟩ : ByteArray)) = true := by rw [empty_of hs0]; rfl
        have p4 : B.toList.isEmpty = true := by rw [ByteArray.toList_eq, empty_of hs0]; rfl
        go_wp2
        refine ⟨⟨q, strOfNums [48 + (d : Int)] ++ B, by simp, rfl, ?_⟩, ?_⟩
        · have h := HNX.out (strOfNums [48 + (d : Int)] ++ B) (by rw [bytesOf_app, one_str (by omega) (by omega)]) (.inr hs0)
          exact ⟨h.1, h.2.1, h.2.2.1, h.2.2.2, by (repeat (first | (with_reducible assumption) | with_reducible exact be_refl _ | (with_reducible refine be_set ?_ (by dsimp only; omega)) | (with_reducible apply be_drew) | (with_reducible apply be_drewN) | (with_reducible refine be_alloc ?_ (by first | omega | (simp; omega) | simp)) | (with_reducible refine be_call (by with_reducible assumption) (by first | omega | (simp; omega) | simp) ?_)))⟩
        · have hs : (strOfNums [48 + (d : Int)] ++ B).size ≠ 0 := by rw [← size_bytes, bytesOf_app, one_str (by omega) (by omega)]; simp
          simp only [intOf, strSz, if_neg hs, if_pos hs0]
          omega
      · have p4 : B.toList.isEmpty = false := by
          rw [ByteArray.toList_eq]
          cases hl : B.data.toList with
          | nil => exact absurd (show B.size = 0 by rw [← size_bytes]; unfold bytesOf; rw [hl]; rfl) hs0
          | cons _ _ => rfl
        go_wp2
        go_ret
        refine ⟨B, rfl, HD.out.1, ?_, ?_, HD.out.2.2, by (repeat (first | (with_reducible assumption) | with_reducible exact be_refl _ | (with_reducible refine be_set ?_ (by dsimp only; omega)) | (with_reducible apply be_drew) | (with_reducible apply be_drewN) | (with_reducible refine be_alloc ?_ (by first | omega | (simp; omega) | simp)) | (with_reducible refine be_call (by with_reducible assumption) (by first | omega | (simp; omega) | simp) ?_)))⟩
        · intro e
          have := size_bytes B
          rw [e] at this
          exact hs0 this.symm
        · have h := HD.out.2.1
          rw [show m = 0 by omega] at h
          exact h
/-- A byte behind a text's bytes: its row bears a conversion's mark. -/
theorem wpList_append_conv {P : Program} {w0 w : World} (base : Nat) {ops : Array Oper} {rest : List Oper} {o : Oper} {a : Act} {Q : Exit → Act → World → Prop}
    (hgd : o.guard = none) (s x : Operand) (t : TypeId) (ho : o.op = Op.call { callee := Callee.builtin Builtin.append, args := #[s, x], argTypes := #[t, t] })
    (e : TypeId) (i : TypeInfo) (ht : P.underlying t = some (.slice e)) (hi : P.info? e = some i) (hz : i.zero = some (.int .u8 0)) (hz1 : i.size = 1) (hz2 : i.bytes = 1)
    (b n cap : Nat) (cur : Array Value) (m1 m2 : Nat) (hb : w.heap[b]? = some (.cells cur e (m1, m2))) (hm : cur.size ≤ m1) (olds : List Value) (holds : cur.toList.take n = olds) (hlo : olds.length = n) (hcap : cap ≤ cur.size)
    (hbase : base ≤ b) (hbl : Below base w0 w) (hbs : base ≤ w.heap.size) (hs : a.eval s = .slice (some ⟨b, 0, none⟩) n cap)
    (ad : Addr) (c : Nat) (v : Value) (hx : a.eval x = .slice (some ad) 1 c) (hc : w.cell? ad = some v) (h1c : v.oneCell' = true) (hn : n ≤ 1000000)
    (h : ∀ (o' : Option Addr) (cap' : Nat) (w' : World), Rd w' 0 o' (olds ++ [v]) → Below base w0 w' → wpList P ops Q rest (a.put o.dst (.slice o' (n + 1) cap')) w') : wpList P ops Q (o :: rest) a w := by
  have hcell : ∀ j, w.cell? ⟨b, j, none⟩ = cur[j]? := fun j => cell_of hb j
  have hold : ∀ j u, olds[j]? = some u → w.cell? ⟨b, 0 + j, none⟩ = some u := fun j u hj => by
    rw [Nat.zero_add, hcell, ← Array.getElem?_toList]
    rw [← holds, List.getElem?_take] at hj
    split at hj
    · exact hj
    · cases hj
  refine wpList_append_arg w hgd s x t ho e i (.int .u8 0) 1 1 ht hi hz hz1 hz2 rfl (by decide) b 0 n cap olds hs (by rw [hlo, Nat.mul_one]) hold ad 1 c [v] hx rfl (fun j u hj => ?_) (fun u hu => by simp at hu; subst hu; exact h1c) (fun hr j hj => ?_) (by unfold maxLen; omega) (by omega) (fun hr => ?_) (fun hg v' w' hown hgrow => ?_)
  · cases j with
    | zero =>
      simp at hj
      subst hj
      rw [← hc]
      congr 1
    | succ j => simp at hj
  · have hj0 : j = 0 := by simp at hj; exact hj
    subst hj0
    refine ⟨?_, ?_⟩
    · rw [hcell, Array.getElem?_eq_getElem (by omega)]; rfl
    · unfold World.frozen?
      rw [hb]
      simp
      omega
  · refine h _ _ _ ?_ ?_
    · intro j u hj
      refine ⟨⟨b, 0, none⟩, rfl, Nat.zero_le _, ?_⟩
      rw [add_head]
      show (w.setCell ⟨b, 0 + n * 1, none⟩ v).cell? ⟨b, j, none⟩ = some u
      rw [cell_set_if]
      rcases Nat.lt_or_ge j n with hlt | hge
      · rw [if_neg (by omega)]
        rw [List.getElem?_append_left (by omega)] at hj
        have h2 := hold j u hj
        rw [Nat.zero_add] at h2
        exact h2
      · rw [List.getElem?_append_right (by omega), hlo] at hj
        have hjn : j = n := by
          cases hq : j - n with
          | zero => omega
          | succ q => rw [hq] at hj; simp at hj
        subst hjn
        simp at hj
        subst hj
        rw [if_pos ⟨rfl, by omega⟩, hcell, Array.getElem?_eq_getElem (by omega)]
        rfl
    · exact be_set hbl hbase
  · obtain ⟨lb, cap2, rfl, hO⟩ := Own.of hown
    exact h _ _ _ ((Rd.of hO).lower (Nat.zero_le _)) (below_grown hbl hbs hgrow (fun _ e => by cases e))
theorem conv_size (w : World) (e : TypeId) (B : ByteArray) : grownCap w B.size 0 e ≤ (Lib.bytesCells w e B).size := by
  unfold Lib.bytesCells
  simp
  have : B.data.size = B.size := rfl
  omega
theorem conv_take (w : World) (e : TypeId) (B : ByteArray) : (Lib.bytesCells w e B).toList.take B.size = (bytesOf B).map (.int .u8) := by
  have h : (B.data.toList.map fun b => Value.int .u8 (b.toNat : Int)).length = B.size := by rw [List.length_map, Array.length_toList]; rfl
  have h2 : (Lib.bytesCells w e B).toList = (B.data.toList.map fun b => Value.int .u8 (b.toNat : Int)) ++ List.replicate (grownCap w B.size 0 e - B.size) (.int .u8 0) := by
    unfold Lib.bytesCells
    simp
  rw [h2, List.take_left' h]
  unfold bytesOf
  rw [List.map_map]
  rfl
theorem conv_row (w : World) (e : TypeId) (B : ByteArray) (o : Obj) : ((Lib.bytesWorld w e B).alloc o).heap[w.heap.size]? = some (.cells (Lib.bytesCells w e B) e ((Lib.bytesCells w e B).size, (Lib.bytesCells w e B).size + 1)) :=
  at_below (be_alloc (be_refl _) (Nat.le_refl _)) (Lib.bytesWorld_at_new w e B)
theorem conv_below {B0 : Nat} {w W : World} (h : Below B0 w W) (hB : B0 ≤ W.heap.size) (e : TypeId) (B : ByteArray) : Below B0 w (Lib.bytesWorld W e B) := bytes_below h hB e B
end Go.Proofs.Ytiahfgcfgpakiaa.EscaVal


