/- The contracts of the package esca as the laws call them. -/
import Derived.Test.YtiahfgcfgpakiaaEscaBytes
namespace Go.Proofs.Ytiahfgcfgpakiaa.EscaVal
open Go Go.RowKit Go.Proofs.YtiahfgcfgpakiaaKit Go.Proofs.Ytiahfgcfgpakiaa.Mem Go.Proofs.YtiahfgcfgpakiaaW.PrintWords Go.Proofs.YtiahfgcfgpakiaaW.PrintLast Go.Proofs.Ytiahfgcfgpakiaa.Split
set_option linter.unusedVariables false
set_option linter.unusedSimpArgs false
theorem cell_of {W : World} {b : Nat} {cs : Array Value} {t : TypeId} {fr : Nat × Nat} (h : W.heap[b]? = some (.cells cs t fr)) (j : Nat) : W.cell? ⟨b, j, none⟩ = cs[j]? := by
  simp [World.cell?, h]
theorem rd_block {W : World} {b : Nat} {cs : Array Value} {t : TypeId} {fr : Nat × Nat} {xs : List Value} (h : W.heap[b]? = some (.cells cs t fr)) (hc : cs.toList = xs) : Rd W 0 (some ⟨b, 0, none⟩) xs := fun j v hv => by
  refine ⟨⟨b, 0, none⟩, rfl, Nat.zero_le _, ?_⟩
  rw [add_head, cell_of h j, ← hv, ← hc, Array.getElem?_toList]
theorem feed_zero (bs : List Int) (hbb : ∀ x ∈ bs, 0 ≤ x ∧ x ≤ 255) (hlen : bs.length ≤ 100000) (oa : Option Addr) (n cb : Nat) (hn : bs.length = n) (w : World) (hr : Rd w 0 oa (bs.map (.int .u8))) :
    Calls Try.prog 11 #[.agg #[.int .i64 0, .int .i64 0, .int .i64 0, .int .i64 0, .slice none 0 0, .int .i64 0, .bool false, .bool false], .slice oa n cb] w (OutG w (fun _ => False) (feedP e0 bs)) := by
  subst hn
  exact feed_val e0 none 0 wf_e0 bs hbb hlen oa cb w 0 (fun _ => True) (Kd.V_nil _ _ _ _ _) hr
theorem feed_next (s : E8) (hw : Wf s) (A : Option Addr) (c : Nat) (bs : List Int) (hbb : ∀ x ∈ bs, 0 ≤ x ∧ x ≤ 255) (hlen : bs.length ≤ 100000) (oa : Option Addr) (n cb : Nat) (hn : bs.length = n) (w : World) (P : Nat → Prop) (hc : s.ps.length ≤ c) (hF : Kd.F (Kd.int .i64) w P A s.ps.length s.ps) (hr : Rd w 0 oa (bs.map (.int .u8))) :
    Calls Try.prog 11 #[.agg #[.int .i64 s.m, .int .i64 s.n1, .int .i64 s.n2, .int .i64 s.n3, .slice A s.ps.length c, .int .i64 s.num, .bool s.q, .bool s.r], .slice oa n cb] w (OutG w (fun _ => False) (feedP s bs)) := by
  subst hn
  exact feed_val s A c hw bs hbb hlen oa cb w 0 P ⟨A, c, rfl, hc, hF⟩ hr
theorem sameEsc_zero (A1 A2 : Option Addr) (c1 c2 : Nat) (w : World) : Calls Try.prog 15 #[.agg #[.int .i64 0, .int .i64 0, .int .i64 0, .int .i64 0, .slice A1 0 c1, .int .i64 0, .bool false, .bool false], .agg #[.int .i64 0, .int .i64 0, .int .i64 0, .int .i64 0, .slice A2 0 c2, .int .i64 0, .bool false, .bool false]] w fun e w' => e = .returned (.bool true) ∧ Below w.heap.size w w' :=
  sameEsc_true e0 (Nat.zero_le _) A1 A2 c1 c2 w (Rd.nil _ _ _) (Rd.nil _ _ _)
theorem sameActs_at (l : List Act3) (n : Nat) (hn : l.length = n) (hl : n ≤ 1000000) (hp : ∀ a ∈ l, a.2.2.length ≤ 1000000) (lb1 lb2 : Option Nat) (o1 o2 : Option Addr) (c1 c2 : Nat) (e1 : sl lb1 n c1 = .slice o1 n c1) (e2 : sl lb2 n c2 = .slice o2 n c2) (ds1 ds2 : List ActD) (w : World) (r1 : AR w lb1 l ds1) (r2 : AR w lb2 l ds2) :
    Calls Try.prog 12 #[.slice o1 n c1, .slice o2 n c2] w fun e w' => e = .returned (.bool true) ∧ Below w.heap.size w w' := by
  rw [← e1, ← e2]
  subst hn
  exact sameActs_true l hl hp lb1 lb2 c1 c2 ds1 ds2 w r1 r2
/-- No action tells more than sixteen parameters. -/
theorem told_par {s : E8} (h : Wf s) : (lastP s.ps s.num).length ≤ 16 := by
  unfold lastP
  split
  · exact h.l0
  · exact told_ok _ h.l0
theorem ctl_par (b : Int) : ∀ a ∈ ctl b, a.2.2.length ≤ 16 := by
  unfold ctl
  split <;> intro a ha <;> simp at ha <;> subst ha <;> simp
theorem sign_par (s : E8) (x : Int) : ∀ a ∈ (signP s x).2, a.2.2.length ≤ 16 := by
  have hc := ctl_par x
  unfold signP
  repeat' split
  · intro a ha; simp at ha
  · exact hc
  · intro a ha; simp at ha
  · intro a ha; simp at ha; subst ha; simp
theorem signs_par (s : E8) (xs : List Int) : ∀ a ∈ (signsP s xs).2, a.2.2.length ≤ 16 := by
  induction xs generalizing s with
  | nil => intro a ha; simp [signsP] at ha
  | cons x xs ih =>
    intro a ha
    rcases List.mem_append.1 ha with h | h
    · exact sign_par s x a h
    · exact ih _ a h
theorem step_par {s : E8} (h : Wf s) (b : Int) : ∀ a ∈ (stepP s b).2, a.2.2.length ≤ 16 := by
  have hc := ctl_par b
  have ht := told_par h
  unfold stepP
  repeat' split
  · unfold escapeP
    repeat' split
    all_goals (intro a ha; first | exact hc a ha | (simp at ha; try subst ha; try simp))
  · unfold csiP
    repeat' split
    all_goals (intro a ha; first | exact hc a ha | (unfold lastA at ha; split at ha <;> simp at ha <;> subst ha <;> exact ht) | (simp at ha))
  · intro a ha; simp at ha
  · intro a ha; simp at ha
  · intro a ha; simp at ha
  · exact signs_par _ _
theorem feed_par {s : E8} (h : Wf s) (bs : List Int) : ∀ a ∈ (feedP s bs).2, a.2.2.length ≤ 16 := by
  induction bs generalizing s with
  | nil => intro a ha; simp [feedP] at ha
  | cons b bs ih =>
    intro a ha
    rcases List.mem_append.1 ha with h2 | h2
    · exact step_par h b a h2
    · exact ih (h.step b) a h2
end Go.Proofs.Ytiahfgcfgpakiaa.EscaVal


