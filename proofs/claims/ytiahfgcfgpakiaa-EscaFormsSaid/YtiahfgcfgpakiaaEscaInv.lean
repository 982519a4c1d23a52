/- What holds of every escape that bytes lead to: plain theorems on lists, without a condition of their own. -/
import Derived.Test.YtiahfgcfgpakiaaEscaAwake
namespace Go.Proofs.Ytiahfgcfgpakiaa.EscaVal
open Go Go.RowKit Go.Proofs.YtiahfgcfgpakiaaKit Go.Proofs.Ytiahfgcfgpakiaa.Mem Go.Proofs.YtiahfgcfgpakiaaW.PrintWords Go.Proofs.YtiahfgcfgpakiaaW.PrintLast Go.Proofs.Ytiahfgcfgpakiaa.Split
set_option linter.unusedVariables false
set_option linter.unusedSimpArgs false
structure Inv (s : E8) : Prop where
  wf : Wf s
  md : s.m = 0 ∨ s.m = 1 ∨ s.m = 2 ∨ s.m = 3 ∨ s.m = 4 ∨ s.m = 5
  un : s.m ≠ 0 → s.n1 = 0 ∧ s.n2 = 0 ∧ s.n3 = 0
  z : s.n1 = 0 → s.n2 = 0 ∧ s.n3 = 0
  cl : s.m ≠ 2 → s.ps = [] ∧ s.num = 0 ∧ s.q = false ∧ s.r = false
theorem inv_e0 : Inv e0 := ⟨wf_e0, .inl rfl, fun h => absurd rfl h, fun _ => ⟨rfl, rfl⟩, fun _ => ⟨rfl, rfl, rfl, rfl⟩⟩
theorem Inv.to_ {s : E8} (h : Inv s) (x : Int) (hx : x = 0 ∨ x = 1 ∨ x = 2 ∨ x = 3 ∨ x = 4 ∨ x = 5) (hz : x ≠ 0 → s.n1 = 0 ∧ s.n2 = 0 ∧ s.n3 = 0) : Inv (toE s x) :=
  ⟨h.wf.to x, hx, hz, h.z, fun _ => ⟨rfl, rfl, rfl, rfl⟩⟩
theorem Inv.to0 {s : E8} (h : Inv s) : Inv (toE s 0) := h.to_ 0 (.inl rfl) (fun e => absurd rfl e)
theorem Inv.escape {s : E8} (h : Inv s) (hm : s.m = 1) (b : Int) : Inv (escapeP s b).1 := by
  have hw := h.wf.escape b
  have hu := h.un (by omega)
  unfold escapeP at hw ⊢
  repeat' split
  all_goals first
    | exact h
    | exact h.to0
    | exact h.to_ _ (by omega) (fun _ => hu)
    | exact ⟨by simpa [*] using hw, .inr (.inr (.inl rfl)), fun _ => hu, h.z, fun e => absurd rfl e⟩
theorem Inv.csi {s : E8} (h : Inv s) (hm : s.m = 2) (b : Int) : Inv (csiP s b).1 := by
  have hu := h.un (by omega)
  refine ⟨h.wf.csi b, ?_, ?_, ?_, ?_⟩
  all_goals
    unfold csiP
    repeat' split
  all_goals first
    | exact h.md
    | exact .inl rfl
    | exact .inr (.inl rfl)
    | exact fun _ => hu
    | exact h.z
    | exact fun _ => ⟨rfl, rfl, rfl, rfl⟩
    | exact fun e => absurd hm e
theorem Inv.text {s : E8} (h : Inv s) (hm : s.m = 3) (b : Int) : Inv (textP s b) := by
  have hu := h.un (by omega)
  unfold textP
  repeat' split
  all_goals first | exact h | exact h.to0 | exact h.to_ _ (by omega) (fun _ => hu)
theorem Inv.skip {s : E8} (h : Inv s) (hm : s.m = 4) (b : Int) : Inv (skipP s b) := by
  have hu := h.un (by omega)
  unfold skipP
  repeat' split
  all_goals first | exact h | exact h.to0 | exact h.to_ _ (by omega) (fun _ => hu)
theorem Inv.end_ {s : E8} (h : Inv s) (hm : s.m = 5) (b : Int) : Inv (endP s b) := by
  have hu := h.un (by omega)
  unfold endP
  repeat' split
  all_goals first | exact h | exact h.to0 | exact h.to_ _ (by omega) (fun _ => hu)
theorem begin_z (b : Int) : (beginP b).1.1 = 0 → (beginP b).1.2.1 = 0 ∧ (beginP b).1.2.2 = 0 := by
  unfold beginP
  repeat' split
  all_goals (intro h; first | exact ⟨rfl, rfl⟩ | (dsimp only at h; omega))
theorem utf_z (n1 n2 n3 b : Int) : (utfP n1 n2 n3 b).1.1 = 0 → (utfP n1 n2 n3 b).1.2.1 = 0 ∧ (utfP n1 n2 n3 b).1.2.2 = 0 := by
  have hb := begin_z b
  unfold utfP
  repeat' split
  all_goals first | exact hb | (intro h; exact ⟨rfl, rfl⟩) | (intro h; dsimp only at h; omega)
theorem begin_27 (b : Int) : 27 ∈ (beginP b).2 → (beginP b).1 = (0, 0, 0) := by
  unfold beginP
  repeat' split
  all_goals (intro h; first | rfl | (simp at h))
theorem utf_27 (n1 n2 n3 b : Int) : 27 ∈ (utfP n1 n2 n3 b).2 → (utfP n1 n2 n3 b).1 = (0, 0, 0) := by
  have hb := begin_27 b
  unfold utfP
  repeat' split
  all_goals first
    | exact hb
    | (intro h; rfl)
    | (intro h; rcases List.mem_cons.1 h with h | h
       · exact absurd h (by decide)
       · exact hb h)
    | (intro h; simp at h)
theorem Inv.sign {s : E8} (h : Inv s) (x : Int) (hz : x = 27 → s.n1 = 0 ∧ s.n2 = 0 ∧ s.n3 = 0) : Inv (signP s x).1 := by
  unfold signP
  repeat' split
  all_goals first | exact h | exact h.to_ 1 (.inr (.inl rfl)) (fun _ => hz (by assumption))
theorem sign_n (s : E8) (x : Int) : (signP s x).1.n1 = s.n1 ∧ (signP s x).1.n2 = s.n2 ∧ (signP s x).1.n3 = s.n3 := by
  unfold signP
  repeat' split
  all_goals exact ⟨rfl, rfl, rfl⟩
theorem Inv.signs {s : E8} (h : Inv s) (xs : List Int) (hz : 27 ∈ xs → s.n1 = 0 ∧ s.n2 = 0 ∧ s.n3 = 0) : Inv (signsP s xs).1 := by
  induction xs generalizing s with
  | nil => exact h
  | cons x xs ih =>
    have hn := sign_n s x
    refine ih (h.sign x (fun e => hz (by rw [e]; exact List.mem_cons_self))) (fun e => ?_)
    have := hz (List.mem_cons_of_mem _ e)
    rw [hn.1, hn.2.1, hn.2.2]
    exact this
theorem Inv.ground {s : E8} (h : Inv s) (hm : s.m = 0) (b : Int) : Inv (groundP s b).1 := by
  have hu : Inv (utfE s b) := ⟨utf_wf h.wf b, .inl hm, fun e => absurd hm e, utf_z _ _ _ _, h.cl⟩
  refine hu.signs _ (fun e => ?_)
  have h2 := utf_27 _ _ _ _ e
  show (utfP s.n1 s.n2 s.n3 b).1.1 = 0 ∧ (utfP s.n1 s.n2 s.n3 b).1.2.1 = 0 ∧ (utfP s.n1 s.n2 s.n3 b).1.2.2 = 0
  rw [h2]
  exact ⟨rfl, rfl, rfl⟩
theorem Inv.step {s : E8} (h : Inv s) (b : Int) : Inv (stepP s b).1 := by
  unfold stepP
  repeat' split
  · exact h.escape (by assumption) b
  · exact h.csi (by assumption) b
  · exact h.text (by assumption) b
  · exact h.skip (by assumption) b
  · exact h.end_ (by assumption) b
  · exact h.ground (by have := h.md; omega) b
theorem Inv.feed {s : E8} (h : Inv s) (bs : List Int) : Inv (feedP s bs).1 := by
  induction bs generalizing s with
  | nil => exact h
  | cons b bs ih => exact ih (h.step b)
theorem e8_ext {s t : E8} (h0 : s.m = t.m) (h1 : s.n1 = t.n1) (h2 : s.n2 = t.n2) (h3 : s.n3 = t.n3) (h4 : s.ps = t.ps) (h5 : s.num = t.num) (h6 : s.q = t.q) (h7 : s.r = t.r) : s = t := by
  cases s; cases t; simp_all
/-- What a cancel leads to. -/
theorem cancel_plain {s : E8} (h : Inv s) {b : Int} (hb : b = 24 ∨ b = 26) : (s.m = 5 → (stepP s b).1.m = 3 ∧ (stepP s b).2 = []) ∧
    (s.m ≠ 5 → (stepP s b).1 = e0 ∧ (s.n1 = 0 → (stepP s b).2 = []) ∧ (stepP s b).2.length ≤ 1) := by
  have h27 : b ≠ 27 := by omega
  have hto : s.m ≠ 0 → toE s 0 = e0 := fun e => by
    have := h.un e
    exact e8_ext rfl this.1 this.2.1 this.2.2 rfl rfl rfl rfl
  refine ⟨fun e => ?_, fun e => ?_⟩
  · unfold stepP
    rw [if_neg (by omega), if_neg (by omega), if_neg (by omega), if_neg (by omega), if_pos e]
    unfold endP
    rw [if_neg (by omega), if_neg h27]
    exact ⟨rfl, rfl⟩
  · rcases h.md with m | m | m | m | m | m
    · have hst : stepP s b = groundP s b := by unfold stepP; rw [if_neg (by omega), if_neg (by omega), if_neg (by omega), if_neg (by omega), if_neg (by omega)]
      have hcl := h.cl (by omega)
      have hbeg : beginP b = ((0, 0, 0), [b]) := by unfold beginP; rw [if_pos (by omega)]
      have hctl : ctl b = [] := by unfold ctl; rw [if_neg (by omega)]
      have hsg : ∀ t : E8, signP t b = (t, []) := fun t => by unfold signP; rw [if_neg h27, if_pos (by omega), hctl]
      have he0 : (⟨s.m, 0, 0, 0, s.ps, s.num, s.q, s.r⟩ : E8) = e0 := e8_ext m rfl rfl rfl hcl.1 hcl.2.1 hcl.2.2.1 hcl.2.2.2
      have hs3 : ∀ t : E8, signP t 65533 = (t, [(1, 65533, [])]) := fun t => by unfold signP; rw [if_neg (by decide), if_neg (by decide), if_neg (by decide)]
      rw [hst]
      unfold groundP utfE
      by_cases hn : s.n1 ≤ 0
      · have hu : utfP s.n1 s.n2 s.n3 b = ((0, 0, 0), [b]) := by unfold utfP; rw [if_pos hn, hbeg]
        rw [hu]
        simp only [signsP, hsg, he0]
        simp
      · have hu : utfP s.n1 s.n2 s.n3 b = ((0, 0, 0), [65533, b]) := by unfold utfP; rw [if_neg hn, if_pos (by omega), hbeg]
        rw [hu]
        simp only [signsP, hsg, hs3, he0]
        simp
        omega
    · have hst : stepP s b = (toE s 0, []) := by unfold stepP escapeP; rw [if_pos m, if_neg h27, if_pos (by omega)]
      rw [hst, hto (by omega)]
      exact ⟨rfl, fun _ => rfl, by simp⟩
    · have hst : stepP s b = (toE s 0, []) := by unfold stepP csiP; rw [if_neg (by omega), if_pos m, if_neg h27, if_pos (by omega)]
      rw [hst, hto (by omega)]
      exact ⟨rfl, fun _ => rfl, by simp⟩
    · have hst : stepP s b = (toE s 0, []) := by unfold stepP textP; rw [if_neg (by omega), if_neg (by omega), if_pos m, if_pos (by omega)]
      rw [hst, hto (by omega)]
      exact ⟨rfl, fun _ => rfl, by simp⟩
    · have hst : stepP s b = (toE s 0, []) := by unfold stepP skipP; rw [if_neg (by omega), if_neg (by omega), if_neg (by omega), if_pos m, if_neg h27, if_pos (by omega)]
      rw [hst, hto (by omega)]
      exact ⟨rfl, fun _ => rfl, by simp⟩
    · exact absurd m e
theorem feed_one (s : E8) (b : Int) : feedP s [b] = stepP s b := by simp [feedP]
theorem rd_of_reads {w : World} {k : IntKind} {A : Option Addr} {n : Nat} {xs : List Int} (h : ReadsInt w k A n xs) : Rd w 0 A (xs.map (.int k)) := fun j v hv => by
  rw [List.getElem?_map] at hv
  cases hj : xs[j]? with
  | none => rw [hj] at hv; cases hv
  | some z =>
    rw [hj] at hv
    have hlt := (List.getElem?_eq_some_iff.1 hj).1
    obtain ⟨ad, e, hc⟩ := h.2.2 (by have := h.1; omega)
    have h3 := hc j (by have := h.1; omega)
    have h4 : xs.getD j 0 = z := by rw [List.getD_eq_getElem?_getD, hj]; rfl
    rw [h4] at h3
    exact ⟨ad, e, Nat.zero_le _, h3.trans hv⟩
theorem bytes_at (l : List Int) (n : Nat) (hn : (bytesP l).length = n) (k : Nat) (hk : l.length = k) (A : Option Addr) (c : Nat) (w : World) (hr : Rd w 0 A (l.map (.int .i64))) :
    Calls Try.prog 16 #[.slice A k c] w fun e w' => ∃ (o : Option Addr) (cap : Nat), e = .returned (.slice o n cap) ∧ Rd w' 0 o ((bytesP l).map (.int .u8)) ∧ Below w.heap.size w w' := by
  subst hn hk
  refine (bytes_val l A c w hr).mono fun e w' ⟨lb, cap, h1, h2, h3⟩ => ?_
  exact ⟨_, cap, h1, (Rd.of h2).lower (Nat.zero_le _), h3⟩
/-- Parameters that stay. -/
def PF (W : World) (A : Option Addr) (ps : List Int) : Prop := Kd.F (Kd.int .i64) W (fun _ => True) A ps.length ps
theorem PF.below {W W' : World} {A : Option Addr} {ps : List Int} (h : PF W A ps) (hb : Below W.heap.size W W') : PF W' A ps := Kd.F_below h hb
theorem PF.rd {W : World} {A : Option Addr} {ps : List Int} (h : PF W A ps) : Rd W 0 A (ps.map (.int .i64)) := rd_of_C (Kd.F_now h)
theorem PF.of {W : World} {ok : Nat → Prop} {A : Option Addr} {ps : List Int} (h : Kd.F (Kd.int .i64) W ok A ps.length ps) : PF W A ps := Kd.F_mono h (fun _ _ => trivial)
set_option maxHeartbeats 1000000
/-! Eight cells stored anew. -/
theorem st8_below {N W : World} {B G : Nat} (hge : B ≤ G) (h : Below B N W) (a0 a1 a2 a3 a4 a5 a6 a7 : Value) : Below B N ((((((((W.setCell ⟨G, 0, none⟩ a0).setCell ⟨G, 1, none⟩ a1).setCell ⟨G, 2, none⟩ a2).setCell ⟨G, 3, none⟩ a3).setCell ⟨G, 4, none⟩ a4).setCell ⟨G, 5, none⟩ a5).setCell ⟨G, 6, none⟩ a6).setCell ⟨G, 7, none⟩ a7) := by
  repeat (with_reducible refine be_set ?_ (by dsimp only; exact hge))
  exact h
theorem st8_cells {W : World} {G : Nat} {t : TypeId} (hg : W.heap[G]? = some (.cells esZ t (0, 0))) (a0 a1 a2 a3 a4 a5 a6 a7 : Value) : (((((((((W.setCell ⟨G, 0, none⟩ a0).setCell ⟨G, 1, none⟩ a1).setCell ⟨G, 2, none⟩ a2).setCell ⟨G, 3, none⟩ a3).setCell ⟨G, 4, none⟩ a4).setCell ⟨G, 5, none⟩ a5).setCell ⟨G, 6, none⟩ a6).setCell ⟨G, 7, none⟩ a7)).heap[G]? = some (.cells #[a0, a1, a2, a3, a4, a5, a6, a7] t (0, 0)) := by
  unfold esZ at hg
  (apply bs_eq; (case h => (repeat (first | (with_reducible assumption) | (with_reducible apply bs_same) | (with_reducible apply bs_far; case hp => (dsimp only; omega)) | (with_reducible apply bs_drew) | (with_reducible apply bs_drewN) | (with_reducible apply bs_new; (first | (with_reducible rfl) | (simp; done))) | (with_reducible apply bs_alloc) | (with_reducible apply bs_below; (case hb => with_reducible assumption); (case hB => first | omega | (simp; omega) | (simp; done)))))); (case e => rfl))
theorem st8_F {W : World} {B G : Nat} {A : Option Addr} {ps : List Int} (hlt : G < B) (h : Kd.F (Kd.int .i64) W (fun k => B ≤ k) A ps.length ps) (a0 a1 a2 a3 a4 a5 a6 a7 : Value) : Kd.F (Kd.int .i64) ((((((((W.setCell ⟨G, 0, none⟩ a0).setCell ⟨G, 1, none⟩ a1).setCell ⟨G, 2, none⟩ a2).setCell ⟨G, 3, none⟩ a3).setCell ⟨G, 4, none⟩ a4).setCell ⟨G, 5, none⟩ a5).setCell ⟨G, 6, none⟩ a6).setCell ⟨G, 7, none⟩ a7) (fun k => B ≤ k) A ps.length ps := by
  repeat (with_reducible refine Kd.F_far ?_ (fun k hk => by dsimp only at hk ⊢; omega) _)
  exact h
theorem st8_acts {W : World} {B G : Nat} {lb : Option Nat} {cap : Nat} {l : List Act3} {ds : List ActD} (hlt : G < B) (h : ActsL W B lb cap l ds) (a0 a1 a2 a3 a4 a5 a6 a7 : Value) : ActsL ((((((((W.setCell ⟨G, 0, none⟩ a0).setCell ⟨G, 1, none⟩ a1).setCell ⟨G, 2, none⟩ a2).setCell ⟨G, 3, none⟩ a3).setCell ⟨G, 4, none⟩ a4).setCell ⟨G, 5, none⟩ a5).setCell ⟨G, 6, none⟩ a6).setCell ⟨G, 7, none⟩ a7) B lb cap l ds := by
  repeat (with_reducible refine ActsL.far ?_ (by dsimp only; omega) _)
  exact h
/-- What Feed hands back, as a law reads it. -/
def FedAt (w : World) (s : E8) (l : List Act3) (k : Nat) (e : Ending) (w' : World) : Prop :=
  ∃ (A : Option Addr) (c : Nat) (lb : Option Nat) (cap : Nat) (o : Option Addr) (ds : List ActD), e = .returned (.tuple #[esV s A s.ps.length c, .slice o k cap]) ∧ s.ps.length ≤ c ∧ Kd.F (Kd.int .i64) w' (fun k => w.heap.size ≤ k) A s.ps.length s.ps ∧ sl lb k cap = .slice o k cap ∧ ActsL w' w.heap.size lb cap l ds ∧ Below w.heap.size w w'
theorem OutG.fed {w w' : World} {s : E8} {l : List Act3} {k : Nat} {e : Ending} (hk : l.length = k) (h : OutG w (fun _ => False) (s, l) e w') : FedAt w s l k e w' := by
  subst hk
  obtain ⟨A, c, lb, cap, ds, rfl, hc, hF, ha, hb⟩ := h
  exact ⟨A, c, lb, cap, _, ds, rfl, hc, Kd.F_mono hF (fun k hk => hk.1.elim False.elim id), rfl, ha, hb⟩
theorem feed_zero_at (bs : List Int) (hbb : ∀ x ∈ bs, 0 ≤ x ∧ x ≤ 255) (hlen : bs.length ≤ 100000) (n : Nat) (hn : bs.length = n) (s : E8) (l : List Act3) (h : feedP e0 bs = (s, l)) (k : Nat) (hk : l.length = k) (oa : Option Addr) (cb : Nat) (w : World) (hr : Rd w 0 oa (bs.map (.int .u8))) :
    Calls Try.prog 11 #[.agg #[.int .i64 0, .int .i64 0, .int .i64 0, .int .i64 0, .slice none 0 0, .int .i64 0, .bool false, .bool false], .slice oa n cb] w (FedAt w s l k) :=
  (feed_zero bs hbb hlen oa n cb hn w hr).mono fun e w' h2 => by rw [h] at h2; exact h2.fed hk
theorem feed_next_at (s0 : E8) (hw : Wf s0) (bs : List Int) (hbb : ∀ x ∈ bs, 0 ≤ x ∧ x ≤ 255) (hlen : bs.length ≤ 100000) (n : Nat) (hn : bs.length = n) (s : E8) (l : List Act3) (h : feedP s0 bs = (s, l)) (k : Nat) (hk : l.length = k) (A : Option Addr) (c : Nat) (oa : Option Addr) (cb : Nat) (w : World) (hc : s0.ps.length ≤ c) (hp : PF w A s0.ps) (hr : Rd w 0 oa (bs.map (.int .u8))) :
    Calls Try.prog 11 #[.agg #[.int .i64 s0.m, .int .i64 s0.n1, .int .i64 s0.n2, .int .i64 s0.n3, .slice A s0.ps.length c, .int .i64 s0.num, .bool s0.q, .bool s0.r], .slice oa n cb] w (FedAt w s l k) :=
  (feed_next s0 hw A c bs hbb hlen oa n cb hn w _ hc hp hr).mono fun e w' h2 => by rw [h] at h2; exact h2.fed hk
/-- Behind a cancel: an escape of nothing, with a row of none. -/
theorem feed_clean_at (bs : List Int) (hbb : ∀ x ∈ bs, 0 ≤ x ∧ x ≤ 255) (hlen : bs.length ≤ 100000) (n : Nat) (hn : bs.length = n) (s : E8) (l : List Act3) (h : feedP e0 bs = (s, l)) (k : Nat) (hk : l.length = k) (A : Option Addr) (c : Nat) (oa : Option Addr) (cb : Nat) (w : World) (hp : PF w A []) (hr : Rd w 0 oa (bs.map (.int .u8))) :
    Calls Try.prog 11 #[.agg #[.int .i64 0, .int .i64 0, .int .i64 0, .int .i64 0, .slice A 0 c, .int .i64 0, .bool false, .bool false], .slice oa n cb] w (FedAt w s l k) :=
  feed_next_at e0 wf_e0 bs hbb hlen n hn s l h k hk A c oa cb w (Nat.zero_le _) hp hr
theorem sameEsc_at (s : E8) (hl : s.ps.length ≤ 1000000) (A1 A2 : Option Addr) (c1 c2 : Nat) (w : World) (r1 : PF w A1 s.ps) (r2 : PF w A2 s.ps) :
    Calls Try.prog 15 #[.agg #[.int .i64 s.m, .int .i64 s.n1, .int .i64 s.n2, .int .i64 s.n3, .slice A1 s.ps.length c1, .int .i64 s.num, .bool s.q, .bool s.r], .agg #[.int .i64 s.m, .int .i64 s.n1, .int .i64 s.n2, .int .i64 s.n3, .slice A2 s.ps.length c2, .int .i64 s.num, .bool s.q, .bool s.r]] w fun e w' => e = .returned (.bool true) ∧ Below w.heap.size w w' :=
  sameEsc_true s hl A1 A2 c1 c2 w r1.rd r2.rd
end Go.Proofs.Ytiahfgcfgpakiaa.EscaVal


