/- EpocOrder: what was retired is given back in the order in which it was, each once, two advances behind; nobody pinned, each advance goes: however many are retired ahead of each advance, without a condition. -/
import Derived.Test.YtnpeklimpdljbaaEpocUse
namespace Go.Proofs.Ytnpeklimpdljbaa.EpocOrderW
open Go.RowKit Go.Proofs.YtnpeklimpdljbaaKit Go.Proofs.YtnpeklimpdljbaaW.PrintWords Go.Proofs.YtnpeklimpdljbaaW.PrintLast Go.Proofs.Ytnpeklimpdljbaa.EpocBase Go.Proofs.Ytnpeklimpdljbaa.EpocOps Go.Proofs.Ytnpeklimpdljbaa.EpocRows Go.Proofs.Ytnpeklimpdljbaa.EpocAdv Go.Proofs.Ytnpeklimpdljbaa.EpocUse
attribute [local go_sem] cell_alloc_some cell_alloc2_some cell_alloc3_some cell_alloc4_some
set_option linter.unusedVariables false
set_option linter.unusedSimpArgs false
theorem and3 (n : Int) : ∃ N : Nat, Go.bits .and .i64 n 3 = (N : Int) ∧ N ≤ 3 := by
  have h : 0 ≤ Go.bits .and .i64 n 3 ∧ Go.bits .and .i64 n 3 ≤ 3 := and_range 2 (by omega) n
  exact ⟨(Go.bits .and .i64 n 3).toNat, by omega, by omega⟩
theorem rowInfo : (Try.prog.info? 22).map (fun i => (i.zero, i.size, i.bytes)) = some (some (.slice none 0 0), 1, 24) := by kernel_rfl
def rowN (x k : Nat) : List Int := (List.range k).map fun j => ((x + j : Nat) : Int)
theorem rowN_len (x k : Nat) : (rowN x k).length = k := by simp [rowN]
theorem rowN_succ (x k : Nat) : rowN x (k + 1) = rowN x k ++ [((x + k : Nat) : Int)] := by simp [rowN, List.range_succ]
def tag (l : List Int) (a : Int) : List (Int × Int) := l.map fun z => (z, a)
theorem tag_len (l : List Int) (a : Int) : (tag l a).length = l.length := List.length_map _
theorem tag_fst (l : List Int) (a : Int) : (tag l a).map (·.1) = l := by simp [tag, Function.comp_def]
theorem out_tag (pr row : List Int) (i : Int) : out i (tag pr (i - 1) ++ tag row i) = pr := by
  unfold out
  rw [List.filter_append, List.filter_eq_self.2 (fun x hx => by obtain ⟨z, _, rfl⟩ := List.mem_map.1 hx; simp), List.filter_eq_nil_iff.2 (fun x hx => by obtain ⟨z, _, rfl⟩ := List.mem_map.1 hx; simp; omega), List.append_nil, tag_fst]
theorem rest_tag (pr row : List Int) (i : Int) : rest i (tag pr (i - 1) ++ tag row i) = tag row i := by
  unfold rest
  rw [List.filter_append, List.filter_eq_nil_iff.2 (fun x hx => by obtain ⟨z, _, rfl⟩ := List.mem_map.1 hx; simp), List.filter_eq_self.2 (fun x hx => by obtain ⟨z, _, rfl⟩ := List.mem_map.1 hx; simp; omega), List.nil_append]
theorem Ep.grown {w W w1 : World} {g pb : Nat} {lb row : Option Nat} {cap : Nat} {now : Int} {ps : List Int} {xs : List (Int × Int)} (h : Ep w W g pb lb cap now ps xs) (hg : W.grownBy w1 row) (hr : ∀ b, row = some b → g < b ∧ some b ≠ lb) : Ep w w1 g pb lb cap now ps xs := by
  have hlt := h.lt
  have hge := h.ge
  refine ⟨(hg.block g (bs_lt h.obj) (fun e => by have := (hr g e.symm).1; omega)).trans h.obj, (hg.block pb (bs_lt h.pins) (fun e => by have := (hr pb e.symm).1; omega)).trans h.pins, Own.grown h.own hg (fun b hb e => (hr b e.symm).2 hb.symm), h.lt, h.ge, below_grown h.below h.below.size hg (fun b hb => by have := (hr b hb).1; omega)⟩
theorem Own.fr {w W W' : World} {g pb : Nat} {lb lb' : Option Nat} {cap : Nat} {now : Int} {ps : List Int} {xs : List (Int × Int)} (h : Ep w W g pb lb cap now ps xs) {base : Nat} {e : TypeId} {k : Nat} {ob : Option Nat} {n c : Nat} {vs : List Value} (ho : Own W base e k ob n c vs) (hb : g + 1 ≤ base) (he : e ≠ 49) (hf : Fr g pb W lb W' lb') : Own W' base e k ob n c vs := by
  have hlt := h.lt
  refine ho.keep fun b e1 hlt2 => hf.block b hlt2 ?_ ?_ ?_
  · subst e1; have := (own_base ho).1; omega
  · subst e1; have := (own_base ho).1; omega
  · intro e2
    subst e1
    have h2 := h.own
    rw [← e2] at h2
    exact he (own_apart ho h2)
theorem ne_lb {w W : World} {g pb : Nat} {lb : Option Nat} {cap : Nat} {now : Int} {ps : List Int} {xs : List (Int × Int)} (h : Ep w W g pb lb cap now ps xs) {base : Nat} {e : TypeId} {k b : Nat} {n c : Nat} {vs : List Value} (ho : Own W base e k (some b) n c vs) (he : e ≠ 49) : some b ≠ lb := fun e2 => by
  have h2 := h.own
  rw [← e2] at h2
  exact he (own_apart ho h2)
theorem Own.slice {W : World} {base : Nat} {e : TypeId} {k : Nat} {ob : Option Nat} {n c : Nat} {vs : List Value} {oa : Option Addr} (h : Own W base e k ob n c vs) (ho : oa = ob.map fun b => ⟨b, 0, none⟩) (o : Obj) : (W.alloc o).ownsRow base e k (.slice oa n c) n vs := by
  subst ho
  exact (h.below (be_alloc (be_refl _) (Nat.le_refl _))).owns
theorem slice_block {ob : Option Nat} {n c : Nat} {oa : Option Addr} (ho : oa = ob.map fun b => ⟨b, 0, none⟩) : (Value.slice oa n c).ownBlock = ob := by
  subst ho; exact sl_block ob n c
theorem Own.alloc {W : World} {base : Nat} {e : TypeId} {k : Nat} {ob : Option Nat} {n c : Nat} {vs : List Value} (h : Own W base e k ob n c vs) (o : Obj) : Own (W.alloc o) base e k ob n c vs := h.below (be_alloc (be_refl _) (Nat.le_refl _))
theorem RD.own {W : World} {base : Nat} {e : TypeId} {ob : Option Nat} {n cap : Nat} {l : List Int} {oa : Option Addr} (h : Own W base e 1 ob n cap (intsOf l)) (ho : oa = ob.map fun b => ⟨b, 0, none⟩) : RD W base oa l := by
  subst ho; exact RD.of h
/-- The state ahead of a round. -/
structure St (w W : World) (g pb : Nat) (lb : Option Nat) (cap : Nat) (i x : Nat) (pr : List Int) (rb : Option Nat) (rc : Nat) (vs : List Value) (qb : Option Nat) (qa : Option Addr) (qc : Nat) : Prop where
  le : x ≤ 3 * i
  ep : Ep w W g pb lb cap (i : Int) [0, 0, 0] (tag pr ((i : Int) - 1))
  rows : Own W (g + 1) 22 1 rb i rc vs
  last : 0 < i → vs[i - 1]? = some (.slice qa pr.length qc)
  first : i = 0 → pr = []
  qa : qa = qb.map fun b => ⟨b, 0, none⟩
  row : Own W (g + 1) 3 1 qb pr.length qc (intsOf pr)
  pl : pr.length ≤ 3
/-- The state within a round: of the new row k numbers are there. -/
structure In (w W : World) (g pb : Nat) (lb : Option Nat) (cap : Nat) (i x k S1 : Nat) (pr : List Int) (rb : Option Nat) (rc : Nat) (vs : List Value) (pob : Option Nat) (pc : Nat) (qb : Option Nat) (qc : Nat) : Prop where
  ep : Ep w W g pb lb cap (i : Int) [0, 0, 0] (tag pr ((i : Int) - 1) ++ tag (rowN x k) i)
  rows : Own W (g + 1) 22 1 rb i rc vs
  prev : Own W (g + 1) 3 1 pob pr.length pc (intsOf pr)
  old : ∀ b, pob = some b → b < S1
  row : Own W S1 3 1 qb k qc (intsOf (rowN x k))
  gs : g < S1
  ss : S1 ≤ W.heap.size
section
variable {w W : World} {g pb : Nat} {lb : Option Nat} {cap i x k S1 : Nat} {pr : List Int} {rb : Option Nat} {rc : Nat} {vs : List Value} {pob : Option Nat} {pc : Nat} {qb : Option Nat} {qa : Option Addr} {qc : Nat}
theorem St.start (h : St w W g pb lb cap i x pr rb rc vs qb qa qc) : In w W g pb lb cap i x 0 W.heap.size pr rb rc vs qb qc none 0 :=
  ⟨by simpa [rowN, tag] using h.ep, h.rows, h.row, fun b e => by subst e; exact (own_base h.row).2, Own.nil _ _ _ _, bs_lt h.ep.obj, Nat.le_refl _⟩
theorem In.retired {W' : World} {lb' : Option Nat} {cap' : Nat} (h : In w W g pb lb cap i x k S1 pr rb rc vs pob pc qb qc) (he : Ep w W' g pb lb' cap' (i : Int) [0, 0, 0] (tag pr ((i : Int) - 1) ++ tag (rowN x k) i ++ [(((x + k : Nat) : Int), (i : Int))])) (hf : Fr g pb W lb W' lb') :
    Own W' (g + 1) 22 1 rb i rc vs ∧ Own W' (g + 1) 3 1 pob pr.length pc (intsOf pr) ∧ Own W' S1 3 1 qb k qc (intsOf (rowN x k)) ∧ S1 ≤ W'.heap.size ∧ Ep w W' g pb lb' cap' (i : Int) [0, 0, 0] (tag pr ((i : Int) - 1) ++ tag (rowN x (k + 1)) i) :=
  ⟨Own.fr h.ep h.rows (Nat.le_refl _) (by decide) hf, Own.fr h.ep h.prev (Nat.le_refl _) (by decide) hf, Own.fr h.ep h.row h.gs (by decide) hf, Nat.le_trans h.ss hf.size, by rw [rowN_succ]; simpa [tag] using he⟩
theorem In.pushed {W' w1 : World} {lb' : Option Nat} {cap' gg cap1 : Nat} {o : Obj} (h : In w W g pb lb cap i x k S1 pr rb rc vs pob pc qb qc)
    (hr : Own W' (g + 1) 22 1 rb i rc vs ∧ Own W' (g + 1) 3 1 pob pr.length pc (intsOf pr) ∧ Own W' S1 3 1 qb k qc (intsOf (rowN x k)) ∧ S1 ≤ W'.heap.size ∧ Ep w W' g pb lb' cap' (i : Int) [0, 0, 0] (tag pr ((i : Int) - 1) ++ tag (rowN x (k + 1)) i))
    (hown : w1.ownsRow S1 3 1 (.slice (some ⟨gg, 0, none⟩) (k + 1) cap1) (k + 1) (intsOf (rowN x k) ++ [.int .i64 ((x + k : Nat) : Int)])) (hg : (W'.alloc o).grownBy w1 qb) : In w w1 g pb lb' cap' i x (k + 1) S1 pr rb rc vs pob pc (some gg) cap1 := by
  obtain ⟨h1, h2, h3, h4, h5⟩ := hr
  have hq : ∀ b, qb = some b → S1 ≤ b := fun b e => by subst e; exact (own_base h3).1
  refine ⟨Ep.grown (h5.alloc o) hg (fun b e => ⟨by have := hq b e; have := h.gs; omega, by subst e; exact ne_lb h5 h3 (by decide)⟩), Own.grown (Own.alloc h1 o) hg (fun b e e2 => ?_), Own.grown (Own.alloc h2 o) hg (fun b e e2 => ?_), h.old, ⟨by rw [rowN_succ, ints_append]; exact hown⟩, h.gs, ?_⟩
  · subst e; subst e2
    have := own_apart h1 h3
    revert this; decide
  · have := hq b e2.symm
    have := h.old b e
    omega
  · exact Nat.le_trans h4 (Nat.le_trans (by simp) hg.size)
theorem In.listed {w1 : World} {gg cap1 : Nat} {o : Obj} {v : Value} (h : In w W g pb lb cap i x k S1 pr rb rc vs pob pc qb qc)
    (hown : w1.ownsRow (g + 1) 22 1 (.slice (some ⟨gg, 0, none⟩) (i + 1) cap1) (i + 1) (vs ++ [v])) (hg : (W.alloc o).grownBy w1 rb) :
    Ep w w1 g pb lb cap (i : Int) [0, 0, 0] (tag pr ((i : Int) - 1) ++ tag (rowN x k) i) ∧ Own w1 (g + 1) 22 1 (some gg) (i + 1) cap1 (vs ++ [v]) ∧ Own w1 (g + 1) 3 1 pob pr.length pc (intsOf pr) ∧ Own w1 (g + 1) 3 1 qb k qc (intsOf (rowN x k)) := by
  have hrb : ∀ b, rb = some b → g + 1 ≤ b := fun b e => by subst e; exact (own_base h.rows).1
  refine ⟨Ep.grown (h.ep.alloc o) hg (fun b e => ⟨hrb b e, by subst e; exact ne_lb h.ep h.rows (by decide)⟩), ⟨hown⟩, Own.grown (Own.alloc h.prev o) hg (fun b e e2 => ?_), (Own.grown (Own.alloc h.row o) hg (fun b e e2 => ?_)).base h.gs⟩
  · subst e; subst e2
    have := own_apart h.prev h.rows
    revert this; decide
  · subst e; subst e2
    have := own_apart h.row h.rows
    revert this; decide
end
section
variable (w W : World) (g pb : Nat) (lb : Option Nat) (cap : Nat)
theorem n3 : Calls Try.prog 7 #[.int .i64 3] w fun e W' => ∃ g pb, e = .returned (.pointer (some ⟨g, 0, none⟩)) ∧ Ep w W' g pb none 0 0 [0, 0, 0] [] := new_calls 3 3 w (by omega) (.inl rfl)
theorem c1 (i : Nat) (hi : i ≤ 20) (pr row : List Int) (hp : pr.length ≤ 3) (hr : row.length ≤ 3) (h : Ep w W g pb lb cap (i : Int) [0, 0, 0] (tag pr ((i : Int) - 1) ++ tag row i)) : Calls Try.prog 9 #[.pointer (some ⟨g, 0, none⟩)] W fun e W' => ∃ oa oc lb' cap', e = .returned (.tuple #[.slice oa pr.length oc, .bool true]) ∧ RD W' W.heap.size oa pr ∧ Ep w W' g pb lb' cap' ((i : Int) + 1) [0, 0, 0] (tag row i) ∧ Fr g pb W lb W' lb' := by
  have := adv_rd w W g pb lb cap i _ _ h (by simp) (by simp) (by rw [List.length_append, tag_len, tag_len]; omega) (by omega) (by simp [canB, okP])
  rwa [out_tag, rest_tag] at this
theorem c2 (i m : Nat) (row : List Int) (hr : row.length ≤ 3) (hm : row.length = m) (h : Ep w W g pb lb cap ((i : Int) + 1) [0, 0, 0] (tag row i)) : Calls Try.prog 12 #[.pointer (some ⟨g, 0, none⟩)] W fun e W' => ∃ oa oc, e = .returned (.slice oa m oc) ∧ RD W' W.heap.size oa row ∧ Below W.heap.size W W' := by
  have := waiting_rd w W g pb lb cap _ _ _ h (by rw [tag_len]; omega)
  rwa [tag_len, tag_fst, hm] at this
theorem c3 (i : Nat) (row : List Int) (h : Ep w W g pb lb cap ((i : Int) + 1) [0, 0, 0] (tag row i)) : Calls Try.prog 11 #[.pointer (some ⟨g, 0, none⟩)] W fun e W' => e = .returned (.int .i64 ((i : Int) + 1)) ∧ W' = W := now_calls w W g pb lb cap _ _ _ h
theorem sm (b1 b2 : Nat) (oa ob : Option Addr) (ca cb : Nat) (a : List Int) (hca : a.length ≤ 3) (ha : RD W b1 oa a) (hb : RD W b2 ob a) (n m : Nat) (hn : n = a.length) (hm : m = a.length) :
    Calls Try.prog 10 #[.slice oa n ca, .slice ob m cb] W fun e W' => e = .returned (.bool true) ∧ Below W.heap.size W W' := by
  have := same_rd W b1 b2 oa ob ca cb a a (by omega) ha hb n m hn hm
  rwa [decide_eq_true rfl] at this
end
set_option maxHeartbeats 16000000 in
set_option maxRecDepth 100000 in
theorem walkR (A : Option Addr) (len c : Nat) (z : List Int) (w : World)
    (h1 : (A = none ∧ len = 0 ∧ c = 0 ∧ z = []) ∨ ∃ x, A = some x ∧ len ≤ c ∧ c ≤ maxLen ∧ z.length = c ∧ (∀ i, i < z.length → w.cell? (x.add i) = some (.int .i64 (z.getD i 0))) ∧ ∀ n ∈ z, (Lit.int .i64 n).wf = true) (y1 : len * 8 ≤ 140737488351232) :
    Calls Try.prog 3 #[.slice A len c] w fun e w' => e = .returned (.bool true) ∧ Below w.heap.size w w' := by
  obtain ⟨l, rfl, hr, _, _⟩ := ReadsInt.ofRow h1
  clear h1 y1
  obtain ⟨n, hn⟩ : ∃ n, n = l.length := ⟨_, rfl⟩
  rw [← hn] at hr ⊢
  have R1 := hide hr
  clear hr hn
  have HN := hide (n3 w)
  obtain ⟨i0, hi0, hz0, hz1, hz2⟩ := info_parts intInfo
  obtain ⟨i1, hi1, hv0, hv1, hv2⟩ := info_parts rowInfo
  go_enter Try.func3, Try.ntmps3
  go_wp2_with (go_at_call 7; with_reducible refine (HN.out).mono ?_; rintro e W1 ⟨g, pb, rfl, P⟩; have P1 := hide P; clear P)
  go_loopw [4, 5, 6] (fun v4 v5 v6 wr => ∃ (i x : Nat) (pr : List Int) (lb : Option Nat) (cap : Nat) (rb : Option Nat) (rc : Nat) (vs : List Value) (qb : Option Nat) (qa : Option Addr) (qc : Nat), i ≤ 20 ∧ v4 = .int .i64 (x : Int) ∧ v5 = sl rb i rc ∧ v6 = .int .i64 (i : Int) ∧ St w wr g pb lb cap i x pr rb rc vs qb qa qc) (fun _ _ v6 _ => (20 - intOf v6).toNat)
  case atStart => exact ⟨0, 0, [], none, 0, none, 0, [], none, none, 0, by omega, rfl, rfl, rfl, ⟨by omega, P1.out, Own.nil _ _ _ _, fun h => absurd h (by omega), fun _ => rfl, rfl, Own.nil _ _ _ _, by simp⟩⟩
  case round =>
    obtain ⟨i, x, pr, lb, cap, rb, rc, vs, pob, pa, pc, hi, rfl, rfl, rfl, hS⟩ := hrel
    have S := hide hS
    clear hS
    by_cases hgo : i < n ∧ i < 20
    · have p1 : ((i : Int) < (n : Int)) = True := eq_true (by omega)
      have p2 : ((i : Int) < 20) = True := eq_true (by omega)
      obtain ⟨ad, rfl, _⟩ := R1.out.at_ (i : Int) (by omega) (by omega)
      have RC := hide (show ∀ W : World, Below w.heap.size w W → W.cell? (ad.add i) = some (.int .i64 (rd l i)) from fun W hb => by
        obtain ⟨ad', e, hc⟩ := (R1.out.below hb).at_ (i : Int) (by omega) (by omega)
        cases e
        simpa using hc)
      obtain ⟨K, hK, hK3⟩ := and3 (rd l i)
      have HK := hide (And.intro hK3 hgo)
      have p0 : (0 : Int) ≤ (i : Int) := by omega
      have HW := hide (show wrap64 ((i : Int) + 1) = (i : Int) + 1 by unfold wrap64; omega)
      clear hK3 hgo hi
      obtain ⟨S1, hS1⟩ : ∃ S1, S1 = wr.heap.size := ⟨_, rfl⟩
      have ST := hide (hS1 ▸ S.out.start)
      go_wp2
      go_loopw [4, 7, 8] (fun v4 v7 v8 wq => ∃ (k : Nat) (lb : Option Nat) (cap : Nat) (qb : Option Nat) (qc : Nat), k ≤ K ∧ v4 = .int .i64 ((x + k : Nat) : Int) ∧ v7 = sl qb k qc ∧ v8 = .int .i64 (k : Int) ∧ In w wq g pb lb cap i x k S1 pr rb rc vs pob pc qb qc) (fun _ _ v8 _ => (K - intOf v8).toNat)
      case atStart => exact ⟨0, lb, cap, none, 0, by omega, rfl, rfl, rfl, ST.out⟩
      case round =>
        obtain ⟨k, lb2, cap2, qb, qc, hk, rfl, rfl, rfl, hI⟩ := hrel
        have I := hide hI
        have lc := RC.out _ hI.ep.below
        clear hI
        by_cases hgk : k < K
        · have q1 : ((k : Int) < (K : Int)) = True := eq_true (by omega)
          have HQ := hide (And.intro hgk hk)
          have hb : 3 * i ≤ 60 ∧ x ≤ 60 ∧ k ≤ 3 := by have := S.out.le; have := HK.out; omega
          have HB := hide hb
          have HM := hide (show wrap64 ((k : Int) + 1) = (k : Int) + 1 by unfold wrap64; omega)
          have HX := hide (show wrap64 (((x + k : Nat) : Int) + 1) = ((x + (k + 1) : Nat) : Int) by unfold wrap64; omega)
          have hmx : k + 1 ≤ maxLen := by unfold maxLen; omega
          have hm8 : (k + 1) * 8 ≤ 140737488355328 := by omega
          obtain ⟨y, hy⟩ : ∃ y, y = x + k := ⟨_, rfl⟩
          have HY := hide hy
          rw [← hy]
          clear hgk hk hb hy
          go_wp2_with (first
            | (go_at_call 8; with_reducible refine (retire_calls (y : Int) w _ g pb _ _ _ _ _ I.out.ep (by rw [List.length_append, tag_len, tag_len, rowN_len]; have := S.out.pl; have := HB.out; omega)).mono ?_; rintro e W3 ⟨rfl, lb3, cap3, P, F⟩; have R3 := hide (In.retired I.out (HY.out ▸ P) F); have HAA := hide (fun o => (Own.alloc R3.out.2.2.1 o).owns); have H3 := hide R3.out.2.2.2.1; have lc3 := RC.out _ P.below; clear P F)
            | (at_builtin; refine wpList_append_lies _ rfl (.tmp 37) (.tmp 39) 22 rfl S1 3 i0 _ 1 8 Try.underlying22 hi0 hz0 hz1 hz2 rfl (by omega) (sl qb k qc) k _ rfl (HAA.out _) ⟨W3.heap.size, 0, none⟩ 1 1 [.int .i64 (y : Int)] rfl rfl (World.news_of_block (cs := #[.int .i64 (y : Int)]) (t := 3) (fr := (0, 0)) (heap_alloc_new W3 _)) (by simp [Value.oneCell']) (by omega) hmx hm8 (by have := H3.out; simp; omega) (W3.heap.size + 1) (by simp) ?_; intro gg cap1 w1 hown1 hgrow hat hlt1))
          rw [sl_block] at hgrow
          rw [HY.out] at hown1
          have J := In.pushed I.out R3.out hown1 hgrow
          refine ⟨⟨k + 1, lb3, cap3, some gg, cap1, by have := HQ.out; omega, by rw [HY.out, HX.out], rfl, by simp, J⟩, ?_⟩
          simp only [intOf]; have := HQ.out; omega
        · have q1 : ((k : Int) < (K : Int)) = False := eq_false (by omega)
          have hkK : k = K := by omega
          subst hkK
          have hb : k ≤ 3 ∧ i < n ∧ i < 20 := HK.out
          have hib : i + 1 ≤ maxLen := by unfold maxLen; omega
          have hi24 : (i + 1) * 24 ≤ 140737488355328 := by omega
          obtain ⟨qa, hqa⟩ : ∃ qa : Option Addr, qa = qb.map fun b => ⟨b, 0, none⟩ := ⟨_, rfl⟩
          have hsl : sl qb k qc = .slice qa k qc := by rw [hqa]; rfl
          rw [hsl]
          have HQA := hide hqa
          have HAR := hide (fun o => (Own.alloc I.out.rows o).owns)
          have H4 := hide I.out.ss
          have H5 := hide I.out.gs
          obtain ⟨y, hy⟩ : ∃ y, y = x + k := ⟨_, rfl⟩
          have HY := hide hy
          rw [← hy]
          clear hsl hqa hy hb hk hgk
          go_upto_region 18 with (first
            | (at_builtin; refine wpList_append_lies _ rfl (.tmp 43) (.tmp 45) 25 rfl (g + 1) 22 i1 _ 1 24 Try.underlying25 hi1 hv0 hv1 hv2 rfl (by omega) (sl rb i rc) i _ rfl (HAR.out _) ⟨wr.heap.size, 0, none⟩ 1 1 [.slice qa k qc] rfl rfl (World.news_of_block (cs := #[.slice qa k qc]) (t := 22) (fr := (0, 0)) (heap_alloc_new wr _)) (by simp [Value.oneCell']) (by omega) hib hi24 (by have := H4.out; have := H5.out; simp; omega) (wr.heap.size + 1) (by simp) ?_; intro gg cap1 w1 hown1 hgrow hat hlt1; rw [sl_block] at hgrow; have LL := hide (In.listed I.out hown1 hgrow); clear hown1 hgrow hat hlt1)
            | (go_at_call 9; with_reducible refine (c1 w _ g pb _ _ i (by have := HK.out; omega) pr (rowN x k) S.out.pl (by rw [rowN_len]; exact HK.out.1) LL.out.1).mono ?_; rintro e W5 ⟨oa, oc, lb5, cap5, rfl, R, P, F⟩; have E5 := hide P; have D5 := hide R; have RW := hide (Own.fr LL.out.1 LL.out.2.1 (Nat.le_refl _) (by decide) F); have PV := hide (Own.fr LL.out.1 LL.out.2.2.1 (Nat.le_refl _) (by decide) F); have RO := hide (Own.fr LL.out.1 LL.out.2.2.2 (Nat.le_refl _) (by decide) F); clear P R F))
          by_cases h0 : i = 0
          · have q0 : ((0 : Int) < (i : Int)) = False := eq_false (by omega)
            have q9 : (0 < i) = False := eq_false (by omega)
            have PE := hide (S.out.first h0)
            have WD := hide (show RD W5 0 none pr by rw [PE.out]; exact RD.nil _ _)
            have WL := hide (show 0 = pr.length by rw [PE.out]; rfl)
            clear h0
            go_wp2_with (first
              | (go_at_call 10; with_reducible refine (sm W5 _ _ oa none oc 0 pr S.out.pl D5.out WD.out _ _ rfl WL.out).mono ?_; rintro e W6 ⟨rfl, hb6⟩; have E6 := hide (E5.out.below_then hb6); have B6 := hide hb6; clear hb6)
              | (go_at_call 11; with_reducible refine (c3 w _ g pb _ _ i _ E6.out).mono ?_; rintro e v ⟨rfl, hv⟩; subst v)
              | (go_at_call 12; with_reducible refine (c2 w _ g pb _ _ i k _ (by rw [rowN_len]; exact HK.out.1) (rowN_len x k) E6.out).mono ?_; rintro e W7 ⟨oa7, oc7, rfl, R, hb7⟩; have E7 := hide (E6.out.below_then hb7); have D7 := hide R; have B7 := hide hb7; clear R hb7)
              | (go_at_call 10; with_reducible refine (sm W7 _ _ oa7 qa oc7 qc (rowN x k) (by rw [rowN_len]; exact HK.out.1) D7.out (((RD.own RO.out HQA.out).below B6.out).below B7.out) _ _ (rowN_len x k).symm (rowN_len x k).symm).mono ?_; rintro e W8 ⟨rfl, hb8⟩; have E8 := hide (E7.out.below_then hb8); have B8 := hide (be_call hb8 B7.out.size B7.out)))
            have hBB := be_call B8.out B6.out.size B6.out
            have hrl := rowN_len x k
            refine ⟨⟨i + 1, y, rowN x k, lb5, cap5, some gg, cap1, vs ++ [.slice qa k qc], qb, qa, qc, by have := HK.out; omega, rfl, rfl, by simp, ⟨by have := S.out.le; have := HK.out; have := HY.out; omega, ?_, RW.out.below hBB, ?_, fun h => absurd h (by omega), HQA.out, ?_, by rw [hrl]; exact HK.out.1⟩⟩, ?_⟩
            · rw [show ((i + 1 : Nat) : Int) - 1 = (i : Int) by omega, show ((i + 1 : Nat) : Int) = (i : Int) + 1 by omega]
              exact E8.out
            · intro _
              have hvl := I.out.rows.len
              rw [hrl, List.getElem?_append_right (by omega), show i + 1 - 1 - vs.length = 0 by omega]
              rfl
            · rw [hrl]
              exact RO.out.below hBB
            · simp only [intOf]; have := HK.out; omega
          · obtain ⟨j, hj⟩ : ∃ j, i = j + 1 := ⟨i - 1, by omega⟩
            have q0 : ((0 : Int) < (i : Int)) = True := eq_true (by omega)
            have q9 : (0 < i) = True := eq_true (by omega)
            have hwj : wrap64 ((i : Int) - 1) = (j : Int) := by unfold wrap64; have := HK.out; omega
            have pj0 : (0 : Int) ≤ (j : Int) := by omega
            have pj1 : (1 : Int) ≤ (i : Int) := by omega
            have pj2 : (i : Int) - 1 < (i : Int) + 1 := by omega
            have pj : (j : Int) < (i : Int) + 1 := by omega
            have hv : (vs ++ [Value.slice qa k qc])[j]? = some (.slice pa pr.length pc) := by
              have h := S.out.last (by omega)
              rw [show i - 1 = j by omega] at h
              rw [List.getElem?_append_left (List.getElem?_eq_some_iff.1 h).1]
              exact h
            obtain ⟨b5, eb, _, _, hc5⟩ := RW.out.cell (by omega) j _ hv
            cases eb
            have hc6 : W5.cell? ⟨gg, i - 1, none⟩ = some (.slice pa pr.length pc) := by rw [show i - 1 = j by omega]; exact hc5
            have WD := hide (RD.own PV.out S.out.qa)
            clear h0 hj hv
            go_wp2_with (first
              | (go_at_call 10; with_reducible refine (sm W5 _ _ oa pa oc pc pr S.out.pl D5.out WD.out _ _ rfl rfl).mono ?_; rintro e W6 ⟨rfl, hb6⟩; have E6 := hide (E5.out.below_then hb6); have B6 := hide hb6; clear hb6)
              | (go_at_call 11; with_reducible refine (c3 w _ g pb _ _ i _ E6.out).mono ?_; rintro e v ⟨rfl, hv⟩; subst v)
              | (go_at_call 12; with_reducible refine (c2 w _ g pb _ _ i k _ (by rw [rowN_len]; exact HK.out.1) (rowN_len x k) E6.out).mono ?_; rintro e W7 ⟨oa7, oc7, rfl, R, hb7⟩; have E7 := hide (E6.out.below_then hb7); have D7 := hide R; have B7 := hide hb7; clear R hb7)
              | (go_at_call 10; with_reducible refine (sm W7 _ _ oa7 qa oc7 qc (rowN x k) (by rw [rowN_len]; exact HK.out.1) D7.out (((RD.own RO.out HQA.out).below B6.out).below B7.out) _ _ (rowN_len x k).symm (rowN_len x k).symm).mono ?_; rintro e W8 ⟨rfl, hb8⟩; have E8 := hide (E7.out.below_then hb8); have B8 := hide (be_call hb8 B7.out.size B7.out)))
            have hBB := be_call B8.out B6.out.size B6.out
            have hrl := rowN_len x k
            refine ⟨⟨i + 1, y, rowN x k, lb5, cap5, some gg, cap1, vs ++ [.slice qa k qc], qb, qa, qc, by have := HK.out; omega, rfl, rfl, by simp, ⟨by have := S.out.le; have := HK.out; have := HY.out; omega, ?_, RW.out.below hBB, ?_, fun h => absurd h (by omega), HQA.out, ?_, by rw [hrl]; exact HK.out.1⟩⟩, ?_⟩
            · rw [show ((i + 1 : Nat) : Int) - 1 = (i : Int) by omega, show ((i + 1 : Nat) : Int) = (i : Int) + 1 by omega]
              exact E8.out
            · intro _
              have hvl := I.out.rows.len
              rw [hrl, List.getElem?_append_right (by omega), show i + 1 - 1 - vs.length = 0 by omega]
              rfl
            · rw [hrl]
              exact RO.out.below hBB
            · simp only [intOf]; have := HK.out; omega
    · have hb : ¬ (i < n ∧ i < 20) := hgo
      by_cases hn : i < n
      · have p1 : ((i : Int) < (n : Int)) = True := eq_true (by omega)
        have p2 : ((i : Int) < 20) = False := eq_false (by omega)
        clear hb hgo
        go_wp2_with (go_at_call 13; refine (awake_calls _).mono ?_; rintro e W10 ⟨rfl, hb10⟩)
        go_ret
        exact ⟨rfl, be_call hb10 S.out.ep.below.size S.out.ep.below⟩
      · have p1 : ((i : Int) < (n : Int)) = False := eq_false (by omega)
        clear hb hgo
        go_wp2_with (go_at_call 13; refine (awake_calls _).mono ?_; rintro e W10 ⟨rfl, hb10⟩)
        go_ret
        exact ⟨rfl, be_call hb10 S.out.ep.below.size S.out.ep.below⟩
end Go.Proofs.Ytnpeklimpdljbaa.EpocOrderW

