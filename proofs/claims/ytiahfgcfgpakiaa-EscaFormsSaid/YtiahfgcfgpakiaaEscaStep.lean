/- What esca.Step hands back: a contract, for every escape that can be and every byte. -/
import Derived.Test.YtiahfgcfgpakiaaEscaCsi3
namespace Go.Proofs.Ytiahfgcfgpakiaa.EscaVal
open Go Go.RowKit Go.Proofs.YtiahfgcfgpakiaaKit Go.Proofs.Ytiahfgcfgpakiaa.Mem Go.Proofs.YtiahfgcfgpakiaaW.PrintWords Go.Proofs.YtiahfgcfgpakiaaW.PrintLast Go.Proofs.Ytiahfgcfgpakiaa.Split
set_option linter.unusedVariables false
set_option linter.unusedSimpArgs false
theorem escape_val (s : E8) (A : Option Addr) (c : Nat) (b : Int) (h0 : 0 ≤ b) (h1 : b ≤ 255) (w : World) (P : Nat → Prop) (hs : Kd.V (Kd.int .i64) 3 w w.heap.size P (.slice A s.ps.length c) s.ps) :
    Calls Try.prog 20 #[esV s A s.ps.length c, .int .u8 b] w (OutE w P (escapeP s b)) := by
  by_cases e27 : b = 27
  · subst e27
    exact escape_esc _ _ _ _ _ _ _ _ _ _ _ _
  by_cases e24 : b = 24
  · subst e24
    exact escape_can _ _ _ _ _ _ _ _ _ _ _ _
  by_cases e26 : b = 26
  · subst e26
    exact escape_sub _ _ _ _ _ _ _ _ _ _ _ _
  have e2 : ¬ (b = 24 ∨ b = 26) := by omega
  by_cases e91 : b = 91
  · subst e91
    exact escape_br _ _ _ _ _ _ _ _ _ _ _ _
  by_cases e93 : b = 93
  · subst e93
    exact escape_s93 _ _ _ _ _ _ _ _ _ _ _ _
  by_cases e80 : b = 80
  · subst e80
    exact escape_s80 _ _ _ _ _ _ _ _ _ _ _ _
  by_cases e88 : b = 88
  · subst e88
    exact escape_s88 _ _ _ _ _ _ _ _ _ _ _ _
  by_cases e94 : b = 94
  · subst e94
    exact escape_s94 _ _ _ _ _ _ _ _ _ _ _ _
  by_cases e95 : b = 95
  · subst e95
    exact escape_s95 _ _ _ _ _ _ _ _ _ _ _ _
  have e5 : ¬ (b = 93 ∨ b = 80 ∨ b = 88 ∨ b = 94 ∨ b = 95) := by omega
  by_cases g1 : 48 ≤ b ∧ b ≤ 126
  · rw [show escapeP s b = (toE s 0, [(3, wrap32 b, [])]) by unfold escapeP; rw [if_neg e27, if_neg e2, if_neg e91, if_neg e5, if_pos g1]]
    exact escape_fin _ _ _ _ _ _ _ _ _ _ _ _ b g1.1 g1.2 e91 e93 e80 e88 e94 e95
  by_cases g2 : 32 ≤ b ∧ b ≤ 47
  · rw [show escapeP s b = (toE s 4, []) by unfold escapeP; rw [if_neg e27, if_neg e2, if_neg e91, if_neg e5, if_neg g1, if_pos g2]]
    exact escape_skp _ _ _ _ _ _ _ _ _ _ _ _ b g2.1 g2.2
  by_cases g3 : b < 32
  · rw [show escapeP s b = (s, ctl b) by unfold escapeP; rw [if_neg e27, if_neg e2, if_neg e91, if_neg e5, if_neg g1, if_neg g2, if_pos g3]]
    exact escape_ctl _ _ _ _ _ _ _ _ _ _ _ _ b e27 e24 e26 g3 _ hs
  · rw [show escapeP s b = (toE s 0, []) by unfold escapeP; rw [if_neg e27, if_neg e2, if_neg e91, if_neg e5, if_neg g1, if_neg g2, if_neg g3]]
    exact escape_oth _ _ _ _ _ _ _ _ _ _ _ _ b (by omega)
/-- An escape alone that is handed back. -/
def OutS (w : World) (s0 : E8) (A : Option Addr) (c : Nat) (u : E8) (e : Ending) (w' : World) : Prop :=
  (e = .returned (esV s0 A s0.ps.length c) ∧ u = s0 ∨ e = .returned (esV u none 0 0) ∧ u.ps = []) ∧ Below w.heap.size w w'
section
variable (s : E8) (A : Option Addr) (c : Nat) (b : Int) (h0 : 0 ≤ b) (h1 : b ≤ 255) (w : World)
theorem text_val : Calls Try.prog 22 #[esV s A s.ps.length c, .int .u8 b] w (OutS w s A c (textP s b)) := by
  by_cases e7 : b = 7
  · subst e7; exact (text_bell _ _ _ _ _ _ _ _ _ _ _).mono fun e w' h => ⟨.inr ⟨h.1, rfl⟩, h.2⟩
  by_cases e24 : b = 24
  · subst e24; exact (text_can _ _ _ _ _ _ _ _ _ _ _).mono fun e w' h => ⟨.inr ⟨h.1, rfl⟩, h.2⟩
  by_cases e26 : b = 26
  · subst e26; exact (text_sub _ _ _ _ _ _ _ _ _ _ _).mono fun e w' h => ⟨.inr ⟨h.1, rfl⟩, h.2⟩
  by_cases e27 : b = 27
  · subst e27; exact (text_esc _ _ _ _ _ _ _ _ _ _ _).mono fun e w' h => ⟨.inr ⟨h.1, rfl⟩, h.2⟩
  · rw [show textP s b = s by unfold textP; rw [if_neg (by omega), if_neg e27]]
    exact (text_oth _ _ _ _ _ _ _ _ _ _ _ b e7 e24 e26 e27).mono fun e w' h => ⟨.inl ⟨h.1, rfl⟩, h.2⟩
theorem end_val : Calls Try.prog 24 #[esV s A s.ps.length c, .int .u8 b] w (OutS w s A c (endP s b)) := by
  by_cases e7 : b = 92
  · subst e7; exact (end_bs _ _ _ _ _ _ _ _ _ _ _).mono fun e w' h => ⟨.inr ⟨h.1, rfl⟩, h.2⟩
  by_cases e27 : b = 27
  · subst e27; exact (end_esc _ _ _ _ _ _ _ _ _ _ _).mono fun e w' h => ⟨.inl ⟨h.1, rfl⟩, h.2⟩
  · rw [show endP s b = toE s 3 by unfold endP; rw [if_neg e7, if_neg e27]]
    exact (end_oth _ _ _ _ _ _ _ _ _ _ _ b e7 e27).mono fun e w' h => ⟨.inr ⟨h.1, rfl⟩, h.2⟩
theorem skip_val : Calls Try.prog 23 #[esV s A s.ps.length c, .int .u8 b] w (OutS w s A c (skipP s b)) := by
  by_cases e27 : b = 27
  · subst e27; exact (skip_esc _ _ _ _ _ _ _ _ _ _ _).mono fun e w' h => ⟨.inr ⟨h.1, rfl⟩, h.2⟩
  by_cases e24 : b = 24
  · subst e24; exact (skip_can _ _ _ _ _ _ _ _ _ _ _).mono fun e w' h => ⟨.inr ⟨h.1, rfl⟩, h.2⟩
  by_cases e26 : b = 26
  · subst e26; exact (skip_sub _ _ _ _ _ _ _ _ _ _ _).mono fun e w' h => ⟨.inr ⟨h.1, rfl⟩, h.2⟩
  by_cases g : 48 ≤ b ∧ b ≤ 126
  · rw [show skipP s b = toE s 0 by unfold skipP; rw [if_neg e27, if_neg (by omega), if_pos g]]
    exact (skip_fin _ _ _ _ _ _ _ _ _ _ _ b g.1 g.2).mono fun e w' h => ⟨.inr ⟨h.1, rfl⟩, h.2⟩
  · rw [show skipP s b = s by unfold skipP; rw [if_neg e27, if_neg (by omega), if_neg g]]
    exact (skip_oth _ _ _ _ _ _ _ _ _ _ _ b e27 e24 e26 (by omega)).mono fun e w' h => ⟨.inl ⟨h.1, rfl⟩, h.2⟩
end
/-- The escape alone, as the others have it. -/
theorem OutS.g {w w' : World} {s0 : E8} {A : Option Addr} {c : Nat} {u : E8} {P : Nat → Prop} {e : Ending} (h : OutS w s0 A c u e w') (hs : Kd.V (Kd.int .i64) 3 w w.heap.size P (.slice A s0.ps.length c) s0.ps) :
    ∃ (A2 : Option Addr) (c2 : Nat), e = .returned (esV u A2 u.ps.length c2) ∧ u.ps.length ≤ c2 ∧ Kd.F (Kd.int .i64) w' (fun k => (P k ∨ w.heap.size ≤ k) ∧ some k ≠ (none : Option Nat)) A2 u.ps.length u.ps ∧ Below w.heap.size w w' := by
  obtain ⟨h1, hb⟩ := h
  rcases h1 with ⟨rfl, rfl⟩ | ⟨rfl, hp⟩
  · obtain ⟨A', c', hv, hc, hF⟩ := hs
    cases hv
    exact ⟨A, c, rfl, hc, Kd.F_mono (Kd.F_step (Kd.F_bound hF) (fun k _ hk => hb.block k hk)) (fun k hk => ⟨.inl hk.1, fun e => by cases e⟩), hb⟩
  · have hF : ∀ ok : Nat → Prop, Kd.F (Kd.int .i64) w' ok none ([] : List Int).length ([] : List Int) := fun ok => Kd.F_nil _ _ _
    refine ⟨none, 0, by rw [hp]; rfl, by rw [hp]; exact Nat.le_refl _, ?_, hb⟩
    rw [hp]
    exact hF _
/-- What the callee hands back is handed on. -/
theorem hand_on {w W9 : World} {P : Nat → Prop} {u : E8 × List Act3} {A2 : Option Addr} {c2 : Nat} {lb : Option Nat} {cap : Nat} {ds : List ActD} {n : Nat} (hn : n = w.heap.size + 2) (hlc : u.1.ps.length ≤ c2)
    (hF : Kd.F (Kd.int .i64) W9 (fun k => ((P k ∧ k < w.heap.size) ∨ n ≤ k) ∧ some k ≠ lb) A2 u.1.ps.length u.1.ps) (ha : ActsL W9 n lb cap u.2 ds) (a0 a1 a2 a3 a4 a5 a6 a7 : Value)
    (hb : Below w.heap.size w ((((((((W9.setCell ⟨w.heap.size + 1, 0, none⟩ a0).setCell ⟨w.heap.size + 1, 1, none⟩ a1).setCell ⟨w.heap.size + 1, 2, none⟩ a2).setCell ⟨w.heap.size + 1, 3, none⟩ a3).setCell ⟨w.heap.size + 1, 4, none⟩ a4).setCell ⟨w.heap.size + 1, 5, none⟩ a5).setCell ⟨w.heap.size + 1, 6, none⟩ a6).setCell ⟨w.heap.size + 1, 7, none⟩ a7)) :
    OutG w P u (.returned (.tuple #[esV u.1 A2 u.1.ps.length c2, sl lb u.2.length cap])) ((((((((W9.setCell ⟨w.heap.size + 1, 0, none⟩ a0).setCell ⟨w.heap.size + 1, 1, none⟩ a1).setCell ⟨w.heap.size + 1, 2, none⟩ a2).setCell ⟨w.heap.size + 1, 3, none⟩ a3).setCell ⟨w.heap.size + 1, 4, none⟩ a4).setCell ⟨w.heap.size + 1, 5, none⟩ a5).setCell ⟨w.heap.size + 1, 6, none⟩ a6).setCell ⟨w.heap.size + 1, 7, none⟩ a7) := by
  subst hn
  refine ⟨A2, c2, lb, cap, ds, rfl, hlc, ?_, ?_, hb⟩
  · refine Kd.F_mono (ok := fun k => ((P k ∧ k < w.heap.size) ∨ w.heap.size + 2 ≤ k) ∧ some k ≠ lb) ?_ (fun k hk => ⟨hk.1.imp (fun h => h.1) (fun h => by omega), hk.2⟩)
    repeat (with_reducible refine Kd.F_far ?_ (fun k hk => by have := hk.1; dsimp only; omega) _)
    exact hF
  · refine ActsL.lower (base := w.heap.size + 2) ?_ (by omega)
    repeat (with_reducible refine ActsL.far ?_ (by dsimp only; omega) _)
    exact ha
section
variable (s : E8) (A : Option Addr) (c : Nat) (b : Int) (h0 : 0 ≤ b) (h1 : b ≤ 255) (w : World) (P : Nat → Prop)
set_option maxHeartbeats 2000000 in
include h0 h1 in
theorem step_escape (hw : Wf s) (hm : s.m = 1) (hs : Kd.V (Kd.int .i64) 3 w w.heap.size P (.slice A s.ps.length c) s.ps) : Calls Try.prog 18 #[esV s A s.ps.length c, .int .u8 b] w (OutG w P (escapeP s b)) := by
  have e1 : (s.m == 1) = true := by simp [hm]
  obtain ⟨u, hu⟩ : ∃ u, u = escapeP s b := ⟨_, rfl⟩
  have CV : ∀ W : World, Below w.heap.size w W → Hid (Calls Try.prog 20 #[esV s A s.ps.length c, .int .u8 b] W (OutG W (fun k => P k ∧ k < w.heap.size) u)) := fun W hb => hide (by rw [hu]; exact (escape_val s A c b h0 h1 W _ (Kd.V_below (Kd.V_bound hs) hb)).mono fun e w' h => h.g)
  rw [← hu]
  clear hu hm hs
  obtain ⟨u1, u2⟩ := u
  try dsimp only at CV
  go_enter Try.func18, Try.ntmps18
  go_wp2_with (go_at_call 20; (with_reducible refine (CV _ (by (repeat (first | (with_reducible assumption) | with_reducible exact be_refl _ | (with_reducible refine be_set ?_ (by dsimp only; omega)) | (with_reducible apply be_drew) | (with_reducible apply be_drewN) | (with_reducible refine be_alloc ?_ (by first | omega | (simp; omega) | simp)) | (with_reducible refine be_call (by with_reducible assumption) (by first | omega | (simp; omega) | simp) ?_))))).out.mono ?_); rintro e w9 ⟨A2, c2, lb, cap, ds, rfl, hlc, hF, ha, hb9⟩; have HH := hide (And.intro hlc (And.intro hF ha)); obtain ⟨o2, ho2⟩ := sl_to lb u2.length cap; dsimp only at ho2 ⊢; rw [ho2]; have HO := hide ho2; have hz9 := hb9.size; (try simp at hz9); obtain ⟨hc9, hf9⟩ := be_cells hb9; have z9 : w.heap.size < w9.heap.size := (by omega); have y9 : w.heap.size + 1 < w9.heap.size := (by omega); clear hlc hF ha ho2)
  refine bodyPost_ret (results_ct rfl _ _ (w.heap.size + 1) 33 #[.int .i64 u1.m, .int .i64 u1.n1, .int .i64 u1.n2, .int .i64 u1.n3, .slice A2 u1.ps.length c2, .int .i64 u1.num, .bool u1.q, .bool u1.r] (0, 0) _ rfl ?_ Try.underlying33 rfl (by kernel_rfl)) rfl ?_
  · (apply bs_eq; (case h => (repeat (first | (with_reducible assumption) | (with_reducible apply bs_same) | (with_reducible apply bs_far; case hp => (dsimp only; omega)) | (with_reducible apply bs_drew) | (with_reducible apply bs_drewN) | (with_reducible apply bs_new; (first | (with_reducible rfl) | (simp; done))) | (with_reducible apply bs_alloc) | (with_reducible apply bs_below; (case hb => with_reducible assumption); (case hB => first | omega | (simp; omega) | (simp; done)))))); (case e => rfl))
  · have h := hand_on (u := (u1, u2)) (P := P) (by simp) HH.out.1 HH.out.2.1 HH.out.2.2 (.int .i64 u1.m) (.int .i64 u1.n1) (.int .i64 u1.n2) (.int .i64 u1.n3) (.slice A2 u1.ps.length c2) (.int .i64 u1.num) (.bool u1.q) (.bool u1.r) (by (repeat (first | (with_reducible assumption) | with_reducible exact be_refl _ | (with_reducible refine be_set ?_ (by dsimp only; omega)) | (with_reducible apply be_drew) | (with_reducible apply be_drewN) | (with_reducible refine be_alloc ?_ (by first | omega | (simp; omega) | simp)) | (with_reducible refine be_call (by with_reducible assumption) (by first | omega | (simp; omega) | simp) ?_))))
    dsimp only at h
    rw [HO.out] at h
    exact h
set_option maxHeartbeats 2000000 in
include h0 h1 in
theorem step_csi (hw : Wf s) (hm : s.m = 2) (hs : Kd.V (Kd.int .i64) 3 w w.heap.size P (.slice A s.ps.length c) s.ps) : Calls Try.prog 18 #[esV s A s.ps.length c, .int .u8 b] w (OutG w P (csiP s b)) := by
  have e1 : (s.m == 1) = false := by simp [hm]
  have e2 : (s.m == 2) = true := by simp [hm]
  obtain ⟨u, hu⟩ : ∃ u, u = csiP s b := ⟨_, rfl⟩
  have CV : ∀ W : World, Below w.heap.size w W → Hid (Calls Try.prog 21 #[esV s A s.ps.length c, .int .u8 b] W (OutG W (fun k => P k ∧ k < w.heap.size) u)) := fun W hb => hide (by rw [hu]; exact (csi_val s A c b h0 h1 hw.k0 hw.l0 W _ (Kd.V_below (Kd.V_bound hs) hb)).mono fun e w' h => h.g)
  rw [← hu]
  clear hu hm hs
  obtain ⟨u1, u2⟩ := u
  try dsimp only at CV
  go_enter Try.func18, Try.ntmps18
  go_wp2_with (go_at_call 21; (with_reducible refine (CV _ (by (repeat (first | (with_reducible assumption) | with_reducible exact be_refl _ | (with_reducible refine be_set ?_ (by dsimp only; omega)) | (with_reducible apply be_drew) | (with_reducible apply be_drewN) | (with_reducible refine be_alloc ?_ (by first | omega | (simp; omega) | simp)) | (with_reducible refine be_call (by with_reducible assumption) (by first | omega | (simp; omega) | simp) ?_))))).out.mono ?_); rintro e w9 ⟨A2, c2, lb, cap, ds, rfl, hlc, hF, ha, hb9⟩; have HH := hide (And.intro hlc (And.intro hF ha)); obtain ⟨o2, ho2⟩ := sl_to lb u2.length cap; dsimp only at ho2 ⊢; rw [ho2]; have HO := hide ho2; have hz9 := hb9.size; (try simp at hz9); obtain ⟨hc9, hf9⟩ := be_cells hb9; have z9 : w.heap.size < w9.heap.size := (by omega); have y9 : w.heap.size + 1 < w9.heap.size := (by omega); clear hlc hF ha ho2)
  refine bodyPost_ret (results_ct rfl _ _ (w.heap.size + 1) 33 #[.int .i64 u1.m, .int .i64 u1.n1, .int .i64 u1.n2, .int .i64 u1.n3, .slice A2 u1.ps.length c2, .int .i64 u1.num, .bool u1.q, .bool u1.r] (0, 0) _ rfl ?_ Try.underlying33 rfl (by kernel_rfl)) rfl ?_
  · (apply bs_eq; (case h => (repeat (first | (with_reducible assumption) | (with_reducible apply bs_same) | (with_reducible apply bs_far; case hp => (dsimp only; omega)) | (with_reducible apply bs_drew) | (with_reducible apply bs_drewN) | (with_reducible apply bs_new; (first | (with_reducible rfl) | (simp; done))) | (with_reducible apply bs_alloc) | (with_reducible apply bs_below; (case hb => with_reducible assumption); (case hB => first | omega | (simp; omega) | (simp; done)))))); (case e => rfl))
  · have h := hand_on (u := (u1, u2)) (P := P) (by simp) HH.out.1 HH.out.2.1 HH.out.2.2 (.int .i64 u1.m) (.int .i64 u1.n1) (.int .i64 u1.n2) (.int .i64 u1.n3) (.slice A2 u1.ps.length c2) (.int .i64 u1.num) (.bool u1.q) (.bool u1.r) (by (repeat (first | (with_reducible assumption) | with_reducible exact be_refl _ | (with_reducible refine be_set ?_ (by dsimp only; omega)) | (with_reducible apply be_drew) | (with_reducible apply be_drewN) | (with_reducible refine be_alloc ?_ (by first | omega | (simp; omega) | simp)) | (with_reducible refine be_call (by with_reducible assumption) (by first | omega | (simp; omega) | simp) ?_))))
    dsimp only at h
    rw [HO.out] at h
    exact h
set_option maxHeartbeats 2000000 in
theorem step_text (hw : Wf s) (hm : s.m = 3) (hs : Kd.V (Kd.int .i64) 3 w w.heap.size P (.slice A s.ps.length c) s.ps) : Calls Try.prog 18 #[esV s A s.ps.length c, .int .u8 b] w (OutG w P ((textP s b, []))) := by
  have e1 : (s.m == 1) = false := by simp [hm]
  have e2 : (s.m == 2) = false := by simp [hm]
  have e3 : (s.m == 3) = true := by simp [hm]
  obtain ⟨u, hu⟩ : ∃ u, u = (textP s b, []) := ⟨_, rfl⟩
  have CV : ∀ W : World, Below w.heap.size w W → Hid (Calls Try.prog 22 #[esV s A s.ps.length c, .int .u8 b] W fun e w' => ∃ (A2 : Option Addr) (c2 : Nat), e = .returned (esV u.1 A2 u.1.ps.length c2) ∧ u.1.ps.length ≤ c2 ∧ Kd.F (Kd.int .i64) w' (fun k => ((P k ∧ k < w.heap.size) ∨ W.heap.size ≤ k) ∧ some k ≠ (none : Option Nat)) A2 u.1.ps.length u.1.ps ∧ Below W.heap.size W w') := fun W hb => hide ((text_val s A c b W).mono fun e w' h => by
    rw [hu]
    exact h.g (Kd.V_below (Kd.V_bound hs) hb))
  have h2 : u.2 = [] := by rw [hu]
  rw [← hu]
  clear hu hm hs
  obtain ⟨u1, u2⟩ := u
  try dsimp only at CV
  dsimp only at h2
  subst h2
  go_enter Try.func18, Try.ntmps18
  go_wp2_with (go_at_call 22; (with_reducible refine (CV _ (by (repeat (first | (with_reducible assumption) | with_reducible exact be_refl _ | (with_reducible refine be_set ?_ (by dsimp only; omega)) | (with_reducible apply be_drew) | (with_reducible apply be_drewN) | (with_reducible refine be_alloc ?_ (by first | omega | (simp; omega) | simp)) | (with_reducible refine be_call (by with_reducible assumption) (by first | omega | (simp; omega) | simp) ?_))))).out.mono ?_); rintro e w9 ⟨A2, c2, rfl, hlc, hF, hb9⟩; have HH := hide (And.intro hlc hF); have hz9 := hb9.size; (try simp at hz9); obtain ⟨hc9, hf9⟩ := be_cells hb9; have z9 : w.heap.size < w9.heap.size := (by omega); have y9 : w.heap.size + 1 < w9.heap.size := (by omega); clear hlc hF)
  refine bodyPost_ret (results_ct rfl _ _ (w.heap.size + 1) 33 #[.int .i64 u1.m, .int .i64 u1.n1, .int .i64 u1.n2, .int .i64 u1.n3, .slice A2 u1.ps.length c2, .int .i64 u1.num, .bool u1.q, .bool u1.r] (0, 0) _ rfl ?_ Try.underlying33 rfl (by kernel_rfl)) rfl ?_
  · (apply bs_eq; (case h => (repeat (first | (with_reducible assumption) | (with_reducible apply bs_same) | (with_reducible apply bs_far; case hp => (dsimp only; omega)) | (with_reducible apply bs_drew) | (with_reducible apply bs_drewN) | (with_reducible apply bs_new; (first | (with_reducible rfl) | (simp; done))) | (with_reducible apply bs_alloc) | (with_reducible apply bs_below; (case hb => with_reducible assumption); (case hB => first | omega | (simp; omega) | (simp; done)))))); (case e => rfl))
  · exact hand_on (u := (u1, [])) (lb := none) (cap := 0) (ds := []) (by simp) HH.out.1 HH.out.2 (.nil _ _) _ _ _ _ _ _ _ _ (by (repeat (first | (with_reducible assumption) | with_reducible exact be_refl _ | (with_reducible refine be_set ?_ (by dsimp only; omega)) | (with_reducible apply be_drew) | (with_reducible apply be_drewN) | (with_reducible refine be_alloc ?_ (by first | omega | (simp; omega) | simp)) | (with_reducible refine be_call (by with_reducible assumption) (by first | omega | (simp; omega) | simp) ?_))))
set_option maxHeartbeats 2000000 in
theorem step_skip (hw : Wf s) (hm : s.m = 4) (hs : Kd.V (Kd.int .i64) 3 w w.heap.size P (.slice A s.ps.length c) s.ps) : Calls Try.prog 18 #[esV s A s.ps.length c, .int .u8 b] w (OutG w P ((skipP s b, []))) := by
  have e1 : (s.m == 1) = false := by simp [hm]
  have e2 : (s.m == 2) = false := by simp [hm]
  have e3 : (s.m == 3) = false := by simp [hm]
  have e4 : (s.m == 4) = true := by simp [hm]
  obtain ⟨u, hu⟩ : ∃ u, u = (skipP s b, []) := ⟨_, rfl⟩
  have CV : ∀ W : World, Below w.heap.size w W → Hid (Calls Try.prog 23 #[esV s A s.ps.length c, .int .u8 b] W fun e w' => ∃ (A2 : Option Addr) (c2 : Nat), e = .returned (esV u.1 A2 u.1.ps.length c2) ∧ u.1.ps.length ≤ c2 ∧ Kd.F (Kd.int .i64) w' (fun k => ((P k ∧ k < w.heap.size) ∨ W.heap.size ≤ k) ∧ some k ≠ (none : Option Nat)) A2 u.1.ps.length u.1.ps ∧ Below W.heap.size W w') := fun W hb => hide ((skip_val s A c b W).mono fun e w' h => by
    rw [hu]
    exact h.g (Kd.V_below (Kd.V_bound hs) hb))
  have h2 : u.2 = [] := by rw [hu]
  rw [← hu]
  clear hu hm hs
  obtain ⟨u1, u2⟩ := u
  try dsimp only at CV
  dsimp only at h2
  subst h2
  go_enter Try.func18, Try.ntmps18
  go_wp2_with (go_at_call 23; (with_reducible refine (CV _ (by (repeat (first | (with_reducible assumption) | with_reducible exact be_refl _ | (with_reducible refine be_set ?_ (by dsimp only; omega)) | (with_reducible apply be_drew) | (with_reducible apply be_drewN) | (with_reducible refine be_alloc ?_ (by first | omega | (simp; omega) | simp)) | (with_reducible refine be_call (by with_reducible assumption) (by first | omega | (simp; omega) | simp) ?_))))).out.mono ?_); rintro e w9 ⟨A2, c2, rfl, hlc, hF, hb9⟩; have HH := hide (And.intro hlc hF); have hz9 := hb9.size; (try simp at hz9); obtain ⟨hc9, hf9⟩ := be_cells hb9; have z9 : w.heap.size < w9.heap.size := (by omega); have y9 : w.heap.size + 1 < w9.heap.size := (by omega); clear hlc hF)
  refine bodyPost_ret (results_ct rfl _ _ (w.heap.size + 1) 33 #[.int .i64 u1.m, .int .i64 u1.n1, .int .i64 u1.n2, .int .i64 u1.n3, .slice A2 u1.ps.length c2, .int .i64 u1.num, .bool u1.q, .bool u1.r] (0, 0) _ rfl ?_ Try.underlying33 rfl (by kernel_rfl)) rfl ?_
  · (apply bs_eq; (case h => (repeat (first | (with_reducible assumption) | (with_reducible apply bs_same) | (with_reducible apply bs_far; case hp => (dsimp only; omega)) | (with_reducible apply bs_drew) | (with_reducible apply bs_drewN) | (with_reducible apply bs_new; (first | (with_reducible rfl) | (simp; done))) | (with_reducible apply bs_alloc) | (with_reducible apply bs_below; (case hb => with_reducible assumption); (case hB => first | omega | (simp; omega) | (simp; done)))))); (case e => rfl))
  · exact hand_on (u := (u1, [])) (lb := none) (cap := 0) (ds := []) (by simp) HH.out.1 HH.out.2 (.nil _ _) _ _ _ _ _ _ _ _ (by (repeat (first | (with_reducible assumption) | with_reducible exact be_refl _ | (with_reducible refine be_set ?_ (by dsimp only; omega)) | (with_reducible apply be_drew) | (with_reducible apply be_drewN) | (with_reducible refine be_alloc ?_ (by first | omega | (simp; omega) | simp)) | (with_reducible refine be_call (by with_reducible assumption) (by first | omega | (simp; omega) | simp) ?_))))
set_option maxHeartbeats 2000000 in
theorem step_end (hw : Wf s) (hm : s.m = 5) (hs : Kd.V (Kd.int .i64) 3 w w.heap.size P (.slice A s.ps.length c) s.ps) : Calls Try.prog 18 #[esV s A s.ps.length c, .int .u8 b] w (OutG w P ((endP s b, []))) := by
  have e1 : (s.m == 1) = false := by simp [hm]
  have e2 : (s.m == 2) = false := by simp [hm]
  have e3 : (s.m == 3) = false := by simp [hm]
  have e4 : (s.m == 4) = false := by simp [hm]
  have e5 : (s.m == 5) = true := by simp [hm]
  obtain ⟨u, hu⟩ : ∃ u, u = (endP s b, []) := ⟨_, rfl⟩
  have CV : ∀ W : World, Below w.heap.size w W → Hid (Calls Try.prog 24 #[esV s A s.ps.length c, .int .u8 b] W fun e w' => ∃ (A2 : Option Addr) (c2 : Nat), e = .returned (esV u.1 A2 u.1.ps.length c2) ∧ u.1.ps.length ≤ c2 ∧ Kd.F (Kd.int .i64) w' (fun k => ((P k ∧ k < w.heap.size) ∨ W.heap.size ≤ k) ∧ some k ≠ (none : Option Nat)) A2 u.1.ps.length u.1.ps ∧ Below W.heap.size W w') := fun W hb => hide ((end_val s A c b W).mono fun e w' h => by
    rw [hu]
    exact h.g (Kd.V_below (Kd.V_bound hs) hb))
  have h2 : u.2 = [] := by rw [hu]
  rw [← hu]
  clear hu hm hs
  obtain ⟨u1, u2⟩ := u
  try dsimp only at CV
  dsimp only at h2
  subst h2
  go_enter Try.func18, Try.ntmps18
  go_wp2_with (go_at_call 24; (with_reducible refine (CV _ (by (repeat (first | (with_reducible assumption) | with_reducible exact be_refl _ | (with_reducible refine be_set ?_ (by dsimp only; omega)) | (with_reducible apply be_drew) | (with_reducible apply be_drewN) | (with_reducible refine be_alloc ?_ (by first | omega | (simp; omega) | simp)) | (with_reducible refine be_call (by with_reducible assumption) (by first | omega | (simp; omega) | simp) ?_))))).out.mono ?_); rintro e w9 ⟨A2, c2, rfl, hlc, hF, hb9⟩; have HH := hide (And.intro hlc hF); have hz9 := hb9.size; (try simp at hz9); obtain ⟨hc9, hf9⟩ := be_cells hb9; have z9 : w.heap.size < w9.heap.size := (by omega); have y9 : w.heap.size + 1 < w9.heap.size := (by omega); clear hlc hF)
  refine bodyPost_ret (results_ct rfl _ _ (w.heap.size + 1) 33 #[.int .i64 u1.m, .int .i64 u1.n1, .int .i64 u1.n2, .int .i64 u1.n3, .slice A2 u1.ps.length c2, .int .i64 u1.num, .bool u1.q, .bool u1.r] (0, 0) _ rfl ?_ Try.underlying33 rfl (by kernel_rfl)) rfl ?_
  · (apply bs_eq; (case h => (repeat (first | (with_reducible assumption) | (with_reducible apply bs_same) | (with_reducible apply bs_far; case hp => (dsimp only; omega)) | (with_reducible apply bs_drew) | (with_reducible apply bs_drewN) | (with_reducible apply bs_new; (first | (with_reducible rfl) | (simp; done))) | (with_reducible apply bs_alloc) | (with_reducible apply bs_below; (case hb => with_reducible assumption); (case hB => first | omega | (simp; omega) | (simp; done)))))); (case e => rfl))
  · exact hand_on (u := (u1, [])) (lb := none) (cap := 0) (ds := []) (by simp) HH.out.1 HH.out.2 (.nil _ _) _ _ _ _ _ _ _ _ (by (repeat (first | (with_reducible assumption) | with_reducible exact be_refl _ | (with_reducible refine be_set ?_ (by dsimp only; omega)) | (with_reducible apply be_drew) | (with_reducible apply be_drewN) | (with_reducible refine be_alloc ?_ (by first | omega | (simp; omega) | simp)) | (with_reducible refine be_call (by with_reducible assumption) (by first | omega | (simp; omega) | simp) ?_))))
set_option maxHeartbeats 2000000 in
include h0 h1 in
theorem step_ground (hw : Wf s) (hm : s.m ≠ 1 ∧ s.m ≠ 2 ∧ s.m ≠ 3 ∧ s.m ≠ 4 ∧ s.m ≠ 5) (hs : Kd.V (Kd.int .i64) 3 w w.heap.size P (.slice A s.ps.length c) s.ps) : Calls Try.prog 18 #[esV s A s.ps.length c, .int .u8 b] w (OutG w P (groundP s b)) := by
  have e1 : (s.m == 1) = false := by simp; omega
  have e2 : (s.m == 2) = false := by simp; omega
  have e3 : (s.m == 3) = false := by simp; omega
  have e4 : (s.m == 4) = false := by simp; omega
  have e5 : (s.m == 5) = false := by simp; omega
  obtain ⟨u, hu⟩ : ∃ u, u = groundP s b := ⟨_, rfl⟩
  have CV : ∀ W : World, Below w.heap.size w W → Hid (Calls Try.prog 25 #[esV s A s.ps.length c, .int .u8 b] W (OutG W (fun k => P k ∧ k < w.heap.size) u)) := fun W hb => hide (by rw [hu]; exact (ground_val s A c b h0 h1 hw.n0.2 hw.g0.1 hw.g0.2 W _ (Kd.V_below (Kd.V_bound hs) hb)))
  rw [← hu]
  clear hu hm hs
  obtain ⟨u1, u2⟩ := u
  try dsimp only at CV
  go_enter Try.func18, Try.ntmps18
  go_wp2_with (go_at_call 25; (with_reducible refine (CV _ (by (repeat (first | (with_reducible assumption) | with_reducible exact be_refl _ | (with_reducible refine be_set ?_ (by dsimp only; omega)) | (with_reducible apply be_drew) | (with_reducible apply be_drewN) | (with_reducible refine be_alloc ?_ (by first | omega | (simp; omega) | simp)) | (with_reducible refine be_call (by with_reducible assumption) (by first | omega | (simp; omega) | simp) ?_))))).out.mono ?_); rintro e w9 ⟨A2, c2, lb, cap, ds, rfl, hlc, hF, ha, hb9⟩; have HH := hide (And.intro hlc (And.intro hF ha)); obtain ⟨o2, ho2⟩ := sl_to lb u2.length cap; dsimp only at ho2 ⊢; rw [ho2]; have HO := hide ho2; have hz9 := hb9.size; (try simp at hz9); obtain ⟨hc9, hf9⟩ := be_cells hb9; have z9 : w.heap.size < w9.heap.size := (by omega); have y9 : w.heap.size + 1 < w9.heap.size := (by omega); clear hlc hF ha ho2)
  refine bodyPost_ret (results_ct rfl _ _ (w.heap.size + 1) 33 #[.int .i64 u1.m, .int .i64 u1.n1, .int .i64 u1.n2, .int .i64 u1.n3, .slice A2 u1.ps.length c2, .int .i64 u1.num, .bool u1.q, .bool u1.r] (0, 0) _ rfl ?_ Try.underlying33 rfl (by kernel_rfl)) rfl ?_
  · (apply bs_eq; (case h => (repeat (first | (with_reducible assumption) | (with_reducible apply bs_same) | (with_reducible apply bs_far; case hp => (dsimp only; omega)) | (with_reducible apply bs_drew) | (with_reducible apply bs_drewN) | (with_reducible apply bs_new; (first | (with_reducible rfl) | (simp; done))) | (with_reducible apply bs_alloc) | (with_reducible apply bs_below; (case hb => with_reducible assumption); (case hB => first | omega | (simp; omega) | (simp; done)))))); (case e => rfl))
  · have h := hand_on (u := (u1, u2)) (P := P) (by simp) HH.out.1 HH.out.2.1 HH.out.2.2 (.int .i64 u1.m) (.int .i64 u1.n1) (.int .i64 u1.n2) (.int .i64 u1.n3) (.slice A2 u1.ps.length c2) (.int .i64 u1.num) (.bool u1.q) (.bool u1.r) (by (repeat (first | (with_reducible assumption) | with_reducible exact be_refl _ | (with_reducible refine be_set ?_ (by dsimp only; omega)) | (with_reducible apply be_drew) | (with_reducible apply be_drewN) | (with_reducible refine be_alloc ?_ (by first | omega | (simp; omega) | simp)) | (with_reducible refine be_call (by with_reducible assumption) (by first | omega | (simp; omega) | simp) ?_))))
    dsimp only at h
    rw [HO.out] at h
    exact h
include h0 h1 in
theorem step_val (hw : Wf s) (hs : Kd.V (Kd.int .i64) 3 w w.heap.size P (.slice A s.ps.length c) s.ps) : Calls Try.prog 18 #[esV s A s.ps.length c, .int .u8 b] w (OutG w P (stepP s b)) := by
  unfold stepP
  split
  · exact step_escape s A c b h0 h1 w P hw (by assumption) hs
  split
  · exact step_csi s A c b h0 h1 w P hw (by assumption) hs
  split
  · exact step_text s A c b w P hw (by assumption) hs
  split
  · exact step_skip s A c b w P hw (by assumption) hs
  split
  · exact step_end s A c b w P hw (by assumption) hs
  · exact step_ground s A c b h0 h1 w P hw ⟨by assumption, by assumption, by assumption, by assumption, by assumption⟩ hs
end
end Go.Proofs.Ytiahfgcfgpakiaa.EscaVal


