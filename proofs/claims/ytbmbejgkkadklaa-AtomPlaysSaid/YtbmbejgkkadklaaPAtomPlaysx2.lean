-- Written by a program of this session over the print of the kit (functions marked FOREIGN are proved by this session).
import Derived.Test.YtbmbejgkkadklaaPAtomPlaysx0
import Derived.Test.YtbmbejgkkadklaaPAtomPlaysx1
namespace Go.Proofs.Ytbmbejgkkadklaa.PAtomPlays
open Go.RowKit Go.Proofs.YtbmbejgkkadklaaW.PrintWords Go.Proofs.YtbmbejgkkadklaaW.PrintLast Go.Proofs.YtbmbejgkkadklaaW.PrintMore
attribute [local go_sem] max2_int min2_int max_two min_two max_three min_three max_four min_four   -- for this text's walks alone
set_option linter.unusedVariables false
set_option linter.unusedSimpArgs false

/-! ### polyptychlaw17_AtomPlays: function 4 -/
mutual
def polyptychlaw17_AtomPlays.l0 : Nat → Int → List Int → List Int → Int → Int → Int → Int → Option (Bool)
  | 0, _, _, _, _, _, _, _ => none
  | k + 1, x0, x1, x2, x8, x9, x132000, x132001 => if x9 < (x1.length : Int) then (if x9 < (x2.length : Int) then (polyptychlaw17_AtomPlays.j1 k x0 x1 x2 x8 x9 (decide (x9 < 60)) x132000 x132001) else (polyptychlaw17_AtomPlays.j1 k x0 x1 x2 x8 x9 false x132000 x132001)) else (polyptychlaw17_AtomPlays.j1 k x0 x1 x2 x8 x9 false x132000 x132001)
def polyptychlaw17_AtomPlays.j1 : Nat → Int → List Int → List Int → Int → Int → Bool → Int → Int → Option (Bool)
  | 0, _, _, _, _, _, _, _, _ => none
  | k + 1, x0, x1, x2, x8, x9, x29, x132000, x132001 => if x29 = true then (if 0 ≤ x9 then (if x9 < (x1.length : Int) then (if (Go.bits .and .i64 (rd x1 x9) 3) = 0 then (if x9 < (x2.length : Int) then ((atom_Cell_Store.f x132000 x132001 (rd x2 x9)).bind fun bt135 => (polyptychlaw17_AtomPlays.j3 k (rd x2 x9) x1 x2 (wrap64 (x8 + 1)) x9 bt135.1 bt135.2)) else (none)) else (if (Go.bits .and .i64 (rd x1 x9) 3) = 1 then (if (Go.bits .and .i64 ((rd x1 x9) / 4) 1) = 1 then (if x9 < (x2.length : Int) then (polyptychlaw17_AtomPlays.j2 k x0 x1 x2 x8 x9 (rd x2 x9) x132000 x132001) else (none)) else (polyptychlaw17_AtomPlays.j2 k x0 x1 x2 x8 x9 x0 x132000 x132001)) else (if (Go.bits .and .i64 (rd x1 x9) 3) = 2 then (if x9 < (x2.length : Int) then ((atom_Cell_Add.f x132000 x132001 (rd x2 x9)).bind fun bt146 => (if bt146.1 = x0 then (polyptychlaw17_AtomPlays.j3 k (wrap64 (x0 + (rd x2 x9))) x1 x2 (wrap64 (x8 + 1)) x9 bt146.2.1 bt146.2.2) else (some false))) else (none)) else (polyptychlaw17_AtomPlays.j3 k x0 x1 x2 x8 x9 x132000 x132001)))) else (none)) else (none)) else ((polyptychlaw17_awake.f).bind fun t132 => (some t132))
def polyptychlaw17_AtomPlays.j3 : Nat → Int → List Int → List Int → Int → Int → Int → Int → Option (Bool)
  | 0, _, _, _, _, _, _, _ => none
  | k + 1, x0, x1, x2, x8, x9, x132000, x132001 => (atom_Cell_Load.f x132000 x132001).bind fun bt150 => (if bt150.1 = x0 then ((atom_Cell_Times.f bt150.2.1 bt150.2.2).bind fun bt153 => (if bt153.1 = x8 then (polyptychlaw17_AtomPlays.l0 k x0 x1 x2 x8 (wrap64 (x9 + 1)) bt153.2.1 bt153.2.2) else (some false))) else (some false))
def polyptychlaw17_AtomPlays.j2 : Nat → Int → List Int → List Int → Int → Int → Int → Int → Int → Option (Bool)
  | 0, _, _, _, _, _, _, _, _ => none
  | k + 1, x0, x1, x2, x8, x9, x10, x132000, x132001 => if 0 ≤ x9 then (if x9 < (x2.length : Int) then ((atom_Cell_Swap.f x132000 x132001 x10 (wrap64 ((rd x2 x9) + 1))).bind fun bt141 => (if (bt141.1 != (x10 == x0)) = true then (some false) else (if bt141.1 = true then (polyptychlaw17_AtomPlays.j3 k (wrap64 ((rd x2 x9) + 1)) x1 x2 (wrap64 (x8 + 1)) x9 bt141.2.1 bt141.2.2) else (polyptychlaw17_AtomPlays.j3 k x0 x1 x2 x8 x9 bt141.2.1 bt141.2.2)))) else (none)) else (none)
end
def polyptychlaw17_AtomPlays.f (k : Nat) (a0 : Int) (l1 : List Int) (l2 : List Int) : Option (Bool) := (atom_New.f a0).bind fun bt129 => (polyptychlaw17_AtomPlays.l0 k a0 l1 l2 0 0 bt129.1 bt129.2)
theorem polyptychlaw17_AtomPlays.mono_l : ∀ k, (∀ y0 y1 y2 y3 y4 y5 y6, LeO (polyptychlaw17_AtomPlays.l0 k y0 y1 y2 y3 y4 y5 y6) (polyptychlaw17_AtomPlays.l0 (k + 1) y0 y1 y2 y3 y4 y5 y6)) ∧ (∀ y0 y1 y2 y3 y4 y5 y6 y7, LeO (polyptychlaw17_AtomPlays.j1 k y0 y1 y2 y3 y4 y5 y6 y7) (polyptychlaw17_AtomPlays.j1 (k + 1) y0 y1 y2 y3 y4 y5 y6 y7)) ∧ (∀ y0 y1 y2 y3 y4 y5 y6, LeO (polyptychlaw17_AtomPlays.j3 k y0 y1 y2 y3 y4 y5 y6) (polyptychlaw17_AtomPlays.j3 (k + 1) y0 y1 y2 y3 y4 y5 y6)) ∧ (∀ y0 y1 y2 y3 y4 y5 y6 y7, LeO (polyptychlaw17_AtomPlays.j2 k y0 y1 y2 y3 y4 y5 y6 y7) (polyptychlaw17_AtomPlays.j2 (k + 1) y0 y1 y2 y3 y4 y5 y6 y7))
  | 0 => ⟨fun _ _ _ _ _ _ _ r h => by simp [polyptychlaw17_AtomPlays.l0] at h, fun _ _ _ _ _ _ _ _ r h => by simp [polyptychlaw17_AtomPlays.j1] at h, fun _ _ _ _ _ _ _ r h => by simp [polyptychlaw17_AtomPlays.j3] at h, fun _ _ _ _ _ _ _ _ r h => by simp [polyptychlaw17_AtomPlays.j2] at h⟩
  | k + 1 => by
    obtain ⟨ih0, ih1, ih2, ih3⟩ := polyptychlaw17_AtomPlays.mono_l k
    refine ⟨?_, ?_, ?_, ?_⟩
    · intro y0 y1 y2 y3 y4 y5 y6
      unfold polyptychlaw17_AtomPlays.l0
      repeat' first
      | (with_reducible exact ih0 _ _ _ _ _ _ _)
      | (with_reducible exact ih1 _ _ _ _ _ _ _ _)
      | (with_reducible exact ih2 _ _ _ _ _ _ _)
      | (with_reducible exact ih3 _ _ _ _ _ _ _ _)
      | (with_reducible exact LeO.refl _)
      | (with_reducible exact LeO.none _)
      | (with_reducible refine LeO.ite ?_ ?_)
      | (with_reducible refine LeO.bind ?_ (fun _ => ?_))
      | exact ih0 _ _ _ _ _ _ _
      | exact ih1 _ _ _ _ _ _ _ _
      | exact ih2 _ _ _ _ _ _ _
      | exact ih3 _ _ _ _ _ _ _ _
      | exact LeO.none _
      | refine LeO.ite ?_ ?_
      | refine LeO.bind ?_ (fun _ => ?_)
    · intro y0 y1 y2 y3 y4 y5 y6 y7
      unfold polyptychlaw17_AtomPlays.j1
      repeat' first
      | (with_reducible exact ih0 _ _ _ _ _ _ _)
      | (with_reducible exact ih1 _ _ _ _ _ _ _ _)
      | (with_reducible exact ih2 _ _ _ _ _ _ _)
      | (with_reducible exact ih3 _ _ _ _ _ _ _ _)
      | (with_reducible exact LeO.refl _)
      | (with_reducible exact LeO.none _)
      | (with_reducible refine LeO.ite ?_ ?_)
      | (with_reducible refine LeO.bind ?_ (fun _ => ?_))
      | exact ih0 _ _ _ _ _ _ _
      | exact ih1 _ _ _ _ _ _ _ _
      | exact ih2 _ _ _ _ _ _ _
      | exact ih3 _ _ _ _ _ _ _ _
      | exact LeO.none _
      | refine LeO.ite ?_ ?_
      | refine LeO.bind ?_ (fun _ => ?_)
    · intro y0 y1 y2 y3 y4 y5 y6
      unfold polyptychlaw17_AtomPlays.j3
      repeat' first
      | (with_reducible exact ih0 _ _ _ _ _ _ _)
      | (with_reducible exact ih1 _ _ _ _ _ _ _ _)
      | (with_reducible exact ih2 _ _ _ _ _ _ _)
      | (with_reducible exact ih3 _ _ _ _ _ _ _ _)
      | (with_reducible exact LeO.refl _)
      | (with_reducible exact LeO.none _)
      | (with_reducible refine LeO.ite ?_ ?_)
      | (with_reducible refine LeO.bind ?_ (fun _ => ?_))
      | exact ih0 _ _ _ _ _ _ _
      | exact ih1 _ _ _ _ _ _ _ _
      | exact ih2 _ _ _ _ _ _ _
      | exact ih3 _ _ _ _ _ _ _ _
      | exact LeO.none _
      | refine LeO.ite ?_ ?_
      | refine LeO.bind ?_ (fun _ => ?_)
    · intro y0 y1 y2 y3 y4 y5 y6 y7
      unfold polyptychlaw17_AtomPlays.j2
      repeat' first
      | (with_reducible exact ih0 _ _ _ _ _ _ _)
      | (with_reducible exact ih1 _ _ _ _ _ _ _ _)
      | (with_reducible exact ih2 _ _ _ _ _ _ _)
      | (with_reducible exact ih3 _ _ _ _ _ _ _ _)
      | (with_reducible exact LeO.refl _)
      | (with_reducible exact LeO.none _)
      | (with_reducible refine LeO.ite ?_ ?_)
      | (with_reducible refine LeO.bind ?_ (fun _ => ?_))
      | exact ih0 _ _ _ _ _ _ _
      | exact ih1 _ _ _ _ _ _ _ _
      | exact ih2 _ _ _ _ _ _ _
      | exact ih3 _ _ _ _ _ _ _ _
      | exact LeO.none _
      | refine LeO.ite ?_ ?_
      | refine LeO.bind ?_ (fun _ => ?_)
theorem polyptychlaw17_AtomPlays.mono : ∀ a0 a1 a2 k, LeO (polyptychlaw17_AtomPlays.f k a0 a1 a2) (polyptychlaw17_AtomPlays.f (k + 1) a0 a1 a2) := by
  intro a0 a1 a2 k
  obtain ⟨ih0, ih1, ih2, ih3⟩ := polyptychlaw17_AtomPlays.mono_l k
  unfold polyptychlaw17_AtomPlays.f
  repeat' first
      | (with_reducible exact ih0 _ _ _ _ _ _ _)
      | (with_reducible exact ih1 _ _ _ _ _ _ _ _)
      | (with_reducible exact ih2 _ _ _ _ _ _ _)
      | (with_reducible exact ih3 _ _ _ _ _ _ _ _)
      | (with_reducible exact LeO.refl _)
      | (with_reducible exact LeO.none _)
      | (with_reducible refine LeO.ite ?_ ?_)
      | (with_reducible refine LeO.bind ?_ (fun _ => ?_))
      | exact ih0 _ _ _ _ _ _ _
      | exact ih1 _ _ _ _ _ _ _ _
      | exact ih2 _ _ _ _ _ _ _
      | exact ih3 _ _ _ _ _ _ _ _
      | exact LeO.none _
      | refine LeO.ite ?_ ?_
      | refine LeO.bind ?_ (fun _ => ?_)
set_option maxHeartbeats 8000000 in
set_option maxRecDepth 100000 in
theorem polyptychlaw17_AtomPlays.calls (k : Nat) (a0 : Int) (A1 : Option Addr) (c1 : Nat) (l1 : List Int) (A2 : Option Addr) (c2 : Nat) (l2 : List Int) (r : Bool) (w : World) (hr1 : Kd.C (Kd.int .i64) w A1 l1.length l1) (hc1 : l1.length ≤ c1) (hr2 : Kd.C (Kd.int .i64) w A2 l2.length l2) (hc2 : l2.length ≤ c2) (h : polyptychlaw17_AtomPlays.f k a0 l1 l2 = some r) :
    Calls Try.prog 4 #[.int .i64 a0, .slice A1 l1.length c1, .slice A2 l2.length c2] w fun e w' => e = .returned (.bool r) ∧ Below w.heap.size w w' := by
  have HR1 := Aside0.mk hr1
  have HC1 := Aside0.mk hc1
  clear hr1 hc1
  have HR2 := Aside0.mk hr2
  have HC2 := Aside0.mk hc2
  clear hr2 hc2
  have HB := Aside0.mk (Below.refl w.heap.size w)
  have H : ((atom_New.f a0).bind fun bt129 => (polyptychlaw17_AtomPlays.l0 k a0 l1 l2 0 0 bt129.1 bt129.2)) = some r := h
  clear h
  replace H := Option.bind_eq_some_iff.mp H
  obtain ⟨⟨t129, t130⟩, A40, H⟩ := H
  replace H : (polyptychlaw17_AtomPlays.l0 k a0 l1 l2 0 0 t129 t130) = some r := H
  have A4 := Aside0.mk A40
  clear A40
  have H' := Aside0.mk H
  clear H
  go_enter Try.func4, Try.ntmps4
  go_wp2_with (first | ((with_reducible refine gate_callee (f := 5) rfl ?_); refine goesL_ (some 13) rfl rfl Try.func5 (by kernel_rfl) rfl #[.int .i64 a0] rfl (by (try simp only [List.map_toArray, List.map_cons, List.map_nil]); first | done | rfl | (simp only [List.length_drop, List.length_take]; rfl)) ?_; (with_reducible refine (atom_New.calls a0 t129 t130 w _ ?side1 A4.out).mono ?_); (case side1 => repeat (first | (with_reducible first | exact HB.out | apply below_alloc | apply pw_below_drewN | apply below_drew1) | exact HB.out)); rintro e w5 ⟨g131, rfl, hi, hb, hb2⟩; refine ⟨_, rfl, ?_⟩; have n0_ := Aside0.mk (hb); have n1_ := Aside0.mk (hi); clear HB; have HB := n0_; have HI131 := n1_; clear n0_ n1_; (try clear hb); (try clear hb2); (try clear hk); (try clear hi)))
  go_loopg [0, 8, 9] k (fun kq v0 v8 v9 w' => ∃ (x0_1 : Int) (x8_1 : Int) (x9_1 : Int) (x132000_1 : Int) (x132001_1 : Int), v0 = .int .i64 x0_1 ∧ v8 = .int .i64 x8_1 ∧ v9 = .int .i64 x9_1 ∧ Aside0 (polyptychlaw17_AtomPlays.l0 kq x0_1 l1 l2 x8_1 x9_1 x132000_1 x132001_1 = some r) ∧ Aside0 (kq ≤ k) ∧ Aside0 (IsS36 w w' g131 x132000_1 x132001_1) ∧ Aside0 (Below w.heap.size w w'))
  case atStart => exact ⟨(a0), (0), (0), (t129), (t130), (by first | rfl | (simp; done) | (simp [*]; done)), (by first | rfl | (simp; done) | (simp [*]; done)), (by first | rfl | (simp; done) | (simp [*]; done)), H', ⟨Nat.le_refl _⟩, ⟨by repeat (first | (with_reducible first | exact HI131.out | apply IsS36.alloc | apply IsS36.drewN | apply IsS36.drew | apply IsS36.set_0 | apply IsS36.set_1) | exact HI131.out)⟩, ⟨by repeat (first | (with_reducible first | exact HB.out | apply below_alloc | apply pw_below_drewN | apply below_drew1 | refine below_set ?_ (IsS36.ge HI131.out)) | exact HB.out)⟩⟩
  case round =>
    clear H'
    try clear c1
    try clear c2
    try clear p2
    try clear c4
    try clear c5
    obtain ⟨x0_1, x8_1, x9_1, x132000_1, x132001_1, rfl, rfl, rfl, HA, HK1, HI131, HB⟩ := hrel
    cases gk with
    | zero => exact absurd HA.out (by simp [polyptychlaw17_AtomPlays.l0])
    | succ k1 =>
      have H := HA.out
      clear HA
      simp only [polyptychlaw17_AtomPlays.l0] at H
      have HC6 := Aside0.mk H
      clear H
      go_upto_region 6 with (fail)
      go_cut [29] (fun v29 wc => ∃ (kq : Nat) (x29_5 : Bool), v29 = .bool x29_5 ∧ Aside0 (polyptychlaw17_AtomPlays.j1 kq x0_1 l1 l2 x8_1 x9_1 x29_5 x132000_1 x132001_1 = some r) ∧ Aside0 (kq ≤ k1) ∧ Aside0 (IsS36 w wc g131 x132000_1 x132001_1) ∧ Aside0 (Below w.heap.size w wc))
      case first =>
        have H := HC6.out
        clear HC6
        by_cases c7 : x9_1 < (l1.length : Int)
        · rw [if_pos c7] at H
          have c7b0 : decide (x9_1 < (l1.length : Int)) = true := decide_eq_true c7
          clear c7
          (first | rw [c7b0] | (simp only [i64_w, i32_w]; rw [c7b0]) | skip)
          by_cases c8 : x9_1 < (l2.length : Int)
          · rw [if_pos c8] at H
            have c8b0 : decide (x9_1 < (l2.length : Int)) = true := decide_eq_true c8
            clear c8
            have H' := Aside0.mk H
            clear H
            go_wp2
            go_meet
            case rel => exact ⟨_, (decide (x9_1 < 60)), (by first | rfl | (simp; done) | (simp [*]; done)), H', ⟨by have := HK1.out; first | omega | exact Nat.le_refl _⟩, ⟨by repeat (first | (with_reducible first | exact HI131.out | apply IsS36.alloc | apply IsS36.drewN | apply IsS36.drew | apply IsS36.set_0 | apply IsS36.set_1) | exact HI131.out)⟩, ⟨by repeat (first | (with_reducible first | exact HB.out | apply below_alloc | apply pw_below_drewN | apply below_drew1 | refine below_set ?_ (IsS36.ge HI131.out)) | exact HB.out)⟩⟩
          · rw [if_neg c8] at H
            have c8b0 : decide (x9_1 < (l2.length : Int)) = false := decide_eq_false c8
            clear c8
            have H' := Aside0.mk H
            clear H
            go_wp2
            go_meet
            case rel => exact ⟨_, (false), (by first | rfl | (simp; done) | (simp [*]; done)), H', ⟨by have := HK1.out; first | omega | exact Nat.le_refl _⟩, ⟨by repeat (first | (with_reducible first | exact HI131.out | apply IsS36.alloc | apply IsS36.drewN | apply IsS36.drew | apply IsS36.set_0 | apply IsS36.set_1) | exact HI131.out)⟩, ⟨by repeat (first | (with_reducible first | exact HB.out | apply below_alloc | apply pw_below_drewN | apply below_drew1 | refine below_set ?_ (IsS36.ge HI131.out)) | exact HB.out)⟩⟩
        · rw [if_neg c7] at H
          have c7b0 : decide (x9_1 < (l1.length : Int)) = false := decide_eq_false c7
          clear c7
          (first | rw [c7b0] | (simp only [i64_w, i32_w]; rw [c7b0]) | skip)
          have H' := Aside0.mk H
          clear H
          go_wp2
          go_meet
          case rel => exact ⟨_, (false), (by first | rfl | (simp; done) | (simp [*]; done)), H', ⟨by have := HK1.out; first | omega | exact Nat.le_refl _⟩, ⟨by repeat (first | (with_reducible first | exact HI131.out | apply IsS36.alloc | apply IsS36.drewN | apply IsS36.drew | apply IsS36.set_0 | apply IsS36.set_1) | exact HI131.out)⟩, ⟨by repeat (first | (with_reducible first | exact HB.out | apply below_alloc | apply pw_below_drewN | apply below_drew1 | refine below_set ?_ (IsS36.ge HI131.out)) | exact HB.out)⟩⟩
      case rest =>
        clear HC6
        try clear c1
        try clear c2
        try clear p2
        try clear c4
        try clear c5
        try clear c7
        try clear c7b0
        try clear c8
        try clear c8b0
        try clear p2
        obtain ⟨kq, x29_5, rfl, HA, HJ5, HI131, HB⟩ := hcut
        cases kq with
        | zero => exact absurd HA.out (by simp [polyptychlaw17_AtomPlays.j1])
        | succ kj5 =>
          have H := HA.out
          clear HA
          simp only [polyptychlaw17_AtomPlays.j1] at H
          by_cases c9 : x29_5 = true
          · subst c9
            have H1 : (if 0 ≤ x9_1 then (if x9_1 < (l1.length : Int) then (if (Go.bits .and .i64 (rd l1 x9_1) 3) = 0 then (if x9_1 < (l2.length : Int) then ((atom_Cell_Store.f x132000_1 x132001_1 (rd l2 x9_1)).bind fun bt135 => (polyptychlaw17_AtomPlays.j3 kj5 (rd l2 x9_1) l1 l2 (wrap64 (x8_1 + 1)) x9_1 bt135.1 bt135.2)) else (none)) else (if (Go.bits .and .i64 (rd l1 x9_1) 3) = 1 then (if (Go.bits .and .i64 ((rd l1 x9_1) / 4) 1) = 1 then (if x9_1 < (l2.length : Int) then (polyptychlaw17_AtomPlays.j2 kj5 x0_1 l1 l2 x8_1 x9_1 (rd l2 x9_1) x132000_1 x132001_1) else (none)) else (polyptychlaw17_AtomPlays.j2 kj5 x0_1 l1 l2 x8_1 x9_1 x0_1 x132000_1 x132001_1)) else (if (Go.bits .and .i64 (rd l1 x9_1) 3) = 2 then (if x9_1 < (l2.length : Int) then ((atom_Cell_Add.f x132000_1 x132001_1 (rd l2 x9_1)).bind fun bt146 => (if bt146.1 = x0_1 then (polyptychlaw17_AtomPlays.j3 kj5 (wrap64 (x0_1 + (rd l2 x9_1))) l1 l2 (wrap64 (x8_1 + 1)) x9_1 bt146.2.1 bt146.2.2) else (some false))) else (none)) else (polyptychlaw17_AtomPlays.j3 kj5 x0_1 l1 l2 x8_1 x9_1 x132000_1 x132001_1)))) else (none)) else (none)) = some r := by rw [if_pos rfl] at H; exact H
            clear H
            have H := H1
            clear H1
            by_cases c10 : 0 ≤ x9_1
            · rw [if_pos c10] at H
              have c10b0 : decide (0 ≤ x9_1) = true := decide_eq_true c10
              clear c10
              by_cases c11 : x9_1 < (l1.length : Int)
              · rw [if_pos c11] at H
                have c11b0 : decide (x9_1 < (l1.length : Int)) = true := decide_eq_true c11
                clear c11
                have HC12 := Aside0.mk H
                clear H
                have p133 : 0 ≤ (x9_1 : Int) := of_decide_eq_true (by first | (with_reducible assumption) | assumption)
                have q133 : x9_1 < (l1.length : Int) := of_decide_eq_true (by first | (with_reducible assumption) | assumption)
                obtain ⟨ad133, e133, hx133_0⟩ := Kd.at_int HR1.out x9_1 p133 q133
                cases e133
                replace hx133_0 := (HB.out.cell (World.block_lt_of_cell? w _ hx133_0)).trans hx133_0
                replace p133 := eq_true p133
                replace q133 := eq_true q133
                go_upto_block 2 with (fail)
                go_cut [0, 8] (fun v0 v8 wc => ∃ (kq : Nat) (x0_11 : Int) (x8_11 : Int) (x132000_11 : Int) (x132001_11 : Int), v0 = .int .i64 x0_11 ∧ v8 = .int .i64 x8_11 ∧ Aside0 (polyptychlaw17_AtomPlays.j3 kq x0_11 l1 l2 x8_11 x9_1 x132000_11 x132001_11 = some r) ∧ Aside0 (kq ≤ kj5) ∧ Aside0 (IsS36 w wc g131 x132000_11 x132001_11) ∧ Aside0 (Below w.heap.size w wc))
                case first =>
                  have H := HC12.out
                  clear HC12
                  by_cases c13 : (Go.bits .and .i64 (rd l1 x9_1) 3) = 0
                  · rw [if_pos c13] at H
                    have c13b0 : ((Go.bits .and .i64 (rd l1 x9_1) 3) == 0) = true := beq_iff_eq.mpr c13
                    have c13b1 : ((Go.bits .and .i64 (rd l1 x9_1) 3) != 0) = false := bne_eq_false_iff_eq.mpr c13
                    clear c13
                    (first | rw [c13b0] | (simp only [i64_w, i32_w]; rw [c13b0]) | skip)
                    by_cases c14 : x9_1 < (l2.length : Int)
                    · rw [if_pos c14] at H
                      have c14b0 : decide (x9_1 < (l2.length : Int)) = true := decide_eq_true c14
                      clear c14
                      replace H := Option.bind_eq_some_iff.mp H
                      obtain ⟨⟨t135, t136⟩, A150, H⟩ := H
                      replace H : (polyptychlaw17_AtomPlays.j3 kj5 (rd l2 x9_1) l1 l2 (wrap64 (x8_1 + 1)) x9_1 t135 t136) = some r := H
                      have A15 := Aside0.mk A150
                      clear A150
                      have H' := Aside0.mk H
                      clear H
                      have p134 : 0 ≤ (x9_1 : Int) := of_decide_eq_true (by first | (with_reducible assumption) | assumption)
                      have q134 : x9_1 < (l2.length : Int) := of_decide_eq_true (by first | (with_reducible assumption) | assumption)
                      obtain ⟨ad134, e134, hx134_0⟩ := Kd.at_int HR2.out x9_1 p134 q134
                      cases e134
                      replace hx134_0 := (HB.out.cell (World.block_lt_of_cell? w _ hx134_0)).trans hx134_0
                      replace p134 := eq_true p134
                      replace q134 := eq_true q134
                      go_wp2_with (first | ((with_reducible refine gate_callee (f := 11) rfl ?_); refine goesL_ (some 44) rfl rfl Try.func11 (by kernel_rfl) rfl #[.pointer (some ⟨g131, 0, none⟩), .int .i64 (rd l2 x9_1)] rfl (by (try simp only [List.map_toArray, List.map_cons, List.map_nil]); first | done | rfl | (simp only [List.length_drop, List.length_take]; rfl)) ?_; (with_reducible refine (atom_Cell_Store.calls g131 x132000_1 x132001_1 (rd l2 x9_1) t135 t136 w _ ?side1 ?side2 A15.out).mono ?_); (case side1 => repeat (first | (with_reducible first | exact HI131.out | apply IsS36.alloc | apply IsS36.drewN | apply IsS36.drew | apply IsS36.set_0 | apply IsS36.set_1) | exact HI131.out)); (case side2 => repeat (first | (with_reducible first | exact HB.out | apply below_alloc | apply pw_below_drewN | apply below_drew1 | refine below_set ?_ (IsS36.ge HI131.out)) | exact HB.out)); rintro e w16 ⟨rfl, hi, hb, hk⟩; refine ⟨_, rfl, ?_⟩; have n0_ := Aside0.mk (hb); have n1_ := Aside0.mk (hi); clear HB; clear HI131; have HB := n0_; have HI131 := n1_; clear n0_ n1_; (try clear hb); (try clear hb2); (try clear hk); (try clear hi); have p137 : 0 ≤ (x9_1 : Int) := of_decide_eq_true (by first | (with_reducible assumption) | assumption); have q137 : x9_1 < (l2.length : Int) := of_decide_eq_true (by first | (with_reducible assumption) | assumption); obtain ⟨ad137, e137, hx137_0⟩ := Kd.at_int HR2.out x9_1 p137 q137; obtain rfl : ad134 = ad137 := (by injection e137); replace hx137_0 := (HB.out.cell (World.block_lt_of_cell? w _ hx137_0)).trans hx137_0; replace p137 := eq_true p137; replace q137 := eq_true q137))
                      go_meet
                      case rel => exact ⟨_, (rd l2 x9_1), (wrap64 (x8_1 + 1)), (t135), (t136), (by first | rfl | (simp; done) | (simp [*]; done)), (by first | rfl | (simp; done) | (simp [*]; done)), H', ⟨by have := HK1.out; have := HJ5.out; first | omega | exact Nat.le_refl _⟩, ⟨by repeat (first | (with_reducible first | exact HI131.out | apply IsS36.alloc | apply IsS36.drewN | apply IsS36.drew | apply IsS36.set_0 | apply IsS36.set_1) | exact HI131.out)⟩, ⟨by repeat (first | (with_reducible first | exact HB.out | apply below_alloc | apply pw_below_drewN | apply below_drew1 | refine below_set ?_ (IsS36.ge HI131.out)) | exact HB.out)⟩⟩
                    · rw [if_neg c14] at H
                      exact absurd H (by simp)
                  · rw [if_neg c13] at H
                    have c13b0 : ((Go.bits .and .i64 (rd l1 x9_1) 3) == 0) = false := beq_eq_false_iff_ne.mpr c13
                    have c13b1 : ((Go.bits .and .i64 (rd l1 x9_1) 3) != 0) = true := bne_iff_ne.mpr c13
                    (first | rw [c13b0] | (simp only [i64_w, i32_w]; rw [c13b0]) | skip)
                    by_cases c17 : (Go.bits .and .i64 (rd l1 x9_1) 3) = 1
                    · rw [if_pos c17] at H
                      have c17b0 : ((Go.bits .and .i64 (rd l1 x9_1) 3) == 1) = true := beq_iff_eq.mpr c17
                      have c17b1 : ((Go.bits .and .i64 (rd l1 x9_1) 3) != 1) = false := bne_eq_false_iff_eq.mpr c17
                      clear c17
                      have HC18 := Aside0.mk H
                      clear H
                      have p138 : 0 ≤ (x9_1 : Int) := of_decide_eq_true (by first | (with_reducible assumption) | assumption)
                      have q138 : x9_1 < (l1.length : Int) := of_decide_eq_true (by first | (with_reducible assumption) | assumption)
                      obtain ⟨ad138, e138, hx138_0⟩ := Kd.at_int HR1.out x9_1 p138 q138
                      obtain rfl : ad133 = ad138 := (by injection e138)
                      replace hx138_0 := (HB.out.cell (World.block_lt_of_cell? w _ hx138_0)).trans hx138_0
                      replace p138 := eq_true p138
                      replace q138 := eq_true q138
                      go_upto_if 60 with (fail)
                      go_cut [10] (fun v10 wc => ∃ (kq : Nat) (x10_17 : Int), v10 = .int .i64 x10_17 ∧ Aside0 (polyptychlaw17_AtomPlays.j2 kq x0_1 l1 l2 x8_1 x9_1 x10_17 x132000_1 x132001_1 = some r) ∧ Aside0 (kq ≤ kj5) ∧ Aside0 (IsS36 w wc g131 x132000_1 x132001_1) ∧ Aside0 (Below w.heap.size w wc))
                      case first =>
                        have H := HC18.out
                        clear HC18
                        by_cases c19 : (Go.bits .and .i64 ((rd l1 x9_1) / 4) 1) = 1
                        · rw [if_pos c19] at H
                          have c19b0 : ((Go.bits .and .i64 ((rd l1 x9_1) / 4) 1) == 1) = true := beq_iff_eq.mpr c19
                          have c19b1 : ((Go.bits .and .i64 ((rd l1 x9_1) / 4) 1) != 1) = false := bne_eq_false_iff_eq.mpr c19
                          clear c19
                          (first | rw [c19b0] | (simp only [i64_w, i32_w]; rw [c19b0]) | skip)
                          by_cases c20 : x9_1 < (l2.length : Int)
                          · rw [if_pos c20] at H
                            have c20b0 : decide (x9_1 < (l2.length : Int)) = true := decide_eq_true c20
                            clear c20
                            have H' := Aside0.mk H
                            clear H
                            have p139 : 0 ≤ (x9_1 : Int) := of_decide_eq_true (by first | (with_reducible assumption) | assumption)
                            have q139 : x9_1 < (l2.length : Int) := of_decide_eq_true (by first | (with_reducible assumption) | assumption)
                            obtain ⟨ad139, e139, hx139_0⟩ := Kd.at_int HR2.out x9_1 p139 q139
                            cases e139
                            replace hx139_0 := (HB.out.cell (World.block_lt_of_cell? w _ hx139_0)).trans hx139_0
                            replace p139 := eq_true p139
                            replace q139 := eq_true q139
                            go_wp2
                            go_meet
                            case rel => exact ⟨_, (rd l2 x9_1), (by first | rfl | (simp; done) | (simp [*]; done)), H', ⟨by have := HK1.out; have := HJ5.out; first | omega | exact Nat.le_refl _⟩, ⟨by repeat (first | (with_reducible first | exact HI131.out | apply IsS36.alloc | apply IsS36.drewN | apply IsS36.drew | apply IsS36.set_0 | apply IsS36.set_1) | exact HI131.out)⟩, ⟨by repeat (first | (with_reducible first | exact HB.out | apply below_alloc | apply pw_below_drewN | apply below_drew1 | refine below_set ?_ (IsS36.ge HI131.out)) | exact HB.out)⟩⟩
                          · rw [if_neg c20] at H
                            exact absurd H (by simp)
                        · rw [if_neg c19] at H
                          have c19b0 : ((Go.bits .and .i64 ((rd l1 x9_1) / 4) 1) == 1) = false := beq_eq_false_iff_ne.mpr c19
                          have c19b1 : ((Go.bits .and .i64 ((rd l1 x9_1) / 4) 1) != 1) = true := bne_iff_ne.mpr c19
                          (first | rw [c19b0] | (simp only [i64_w, i32_w]; rw [c19b0]) | skip)
                          have H' := Aside0.mk H
                          clear H
                          go_wp2
                          go_meet
                          case rel => exact ⟨_, (x0_1), (by first | rfl | (simp; done) | (simp [*]; done)), H', ⟨by have := HK1.out; have := HJ5.out; first | omega | exact Nat.le_refl _⟩, ⟨by repeat (first | (with_reducible first | exact HI131.out | apply IsS36.alloc | apply IsS36.drewN | apply IsS36.drew | apply IsS36.set_0 | apply IsS36.set_1) | exact HI131.out)⟩, ⟨by repeat (first | (with_reducible first | exact HB.out | apply below_alloc | apply pw_below_drewN | apply below_drew1 | refine below_set ?_ (IsS36.ge HI131.out)) | exact HB.out)⟩⟩
                      case rest =>
                        clear HC18
                        try clear c1
                        try clear p1
                        try clear q1
                        try clear hx1
                        try clear c2
                        try clear p2
                        try clear c4
                        try clear c5
                        try clear p6
                        try clear c7
                        try clear c7b0
                        try clear c8
                        try clear c8b0
                        try clear c9
                        try clear c10
                        try clear c10b0
                        try clear c11
                        try clear c11b0
                        try clear c13
                        try clear c13b0
                        try clear c13b1
                        try clear p13
                        try clear q13
                        try clear hx13
                        try clear c14
                        try clear c14b0
                        try clear c17
                        try clear c17b0
                        try clear c17b1
                        try clear c19
                        try clear c19b0
                        try clear c19b1
                        try clear c20
                        try clear c20b0
                        try clear hx133_0
                        try clear hx134_0
                        try clear hx137_0
                        try clear hx138_0
                        try clear hx139_0
                        try clear p133
                        try clear p134
                        try clear p137
                        try clear p138
                        try clear p139
                        try clear p2
                        try clear q133
                        try clear q134
                        try clear q137
                        try clear q138
                        try clear q139
                        obtain ⟨kq, x10_17, rfl, HA, HJ17, HI131, HB⟩ := hcut
                        cases kq with
                        | zero => exact absurd HA.out (by simp [polyptychlaw17_AtomPlays.j2])
                        | succ kj17 =>
                          have H := HA.out
                          clear HA
                          simp only [polyptychlaw17_AtomPlays.j2] at H
                          by_cases c21 : 0 ≤ x9_1
                          · rw [if_pos c21] at H
                            have c21b0 : decide (0 ≤ x9_1) = true := decide_eq_true c21
                            clear c21
                            by_cases c22 : x9_1 < (l2.length : Int)
                            · rw [if_pos c22] at H
                              have c22b0 : decide (x9_1 < (l2.length : Int)) = true := decide_eq_true c22
                              clear c22
                              replace H := Option.bind_eq_some_iff.mp H
                              obtain ⟨⟨t141, t142, t143⟩, A230, H⟩ := H
                              replace H : (if (t141 != (x10_17 == x0_1)) = true then (some false) else (if t141 = true then (polyptychlaw17_AtomPlays.j3 kj17 (wrap64 ((rd l2 x9_1) + 1)) l1 l2 (wrap64 (x8_1 + 1)) x9_1 t142 t143) else (polyptychlaw17_AtomPlays.j3 kj17 x0_1 l1 l2 x8_1 x9_1 t142 t143))) = some r := H
                              have A23 := Aside0.mk A230
                              clear A230
                              by_cases c24 : (t141 != (x10_17 == x0_1)) = true
                              · rw [if_pos c24] at H
                                have c24b0 : (t141 != (x10_17 == x0_1)) = true := c24
                                (try (have c24b1 : decide (t141 = (x10_17 == x0_1)) = false := by simpa using c24))
                                (try (have c24b2 : (t141 == (x10_17 == x0_1)) = false := by simpa using c24))
                                (try (have c24b3 : ¬ (t141 = (x10_17 == x0_1)) := by simpa using c24))
                                clear c24
                                obtain rfl := Option.some.inj H
                                have p140 : 0 ≤ (x9_1 : Int) := of_decide_eq_true (by first | (with_reducible assumption) | assumption)
                                have q140 : x9_1 < (l2.length : Int) := of_decide_eq_true (by first | (with_reducible assumption) | assumption)
                                obtain ⟨ad140, e140, hx140_0⟩ := Kd.at_int HR2.out x9_1 p140 q140
                                cases e140
                                replace hx140_0 := (HB.out.cell (World.block_lt_of_cell? w _ hx140_0)).trans hx140_0
                                replace p140 := eq_true p140
                                replace q140 := eq_true q140
                                go_wp2_with (first | ((with_reducible refine gate_callee (f := 7) rfl ?_); refine goesL_ (some 72) rfl rfl Try.func7 (by kernel_rfl) rfl #[.pointer (some ⟨g131, 0, none⟩), .int .i64 x10_17, .int .i64 (wrap64 ((rd l2 x9_1) + 1))] rfl (by (try simp only [List.map_toArray, List.map_cons, List.map_nil]); first | done | rfl | (simp only [List.length_drop, List.length_take]; rfl)) ?_; (with_reducible refine (atom_Cell_Swap.calls g131 x132000_1 x132001_1 x10_17 (wrap64 ((rd l2 x9_1) + 1)) t141 t142 t143 w _ ?side1 ?side2 A23.out).mono ?_); (case side1 => repeat (first | (with_reducible first | exact HI131.out | apply IsS36.alloc | apply IsS36.drewN | apply IsS36.drew | apply IsS36.set_0 | apply IsS36.set_1) | exact HI131.out)); (case side2 => repeat (first | (with_reducible first | exact HB.out | apply below_alloc | apply pw_below_drewN | apply below_drew1 | refine below_set ?_ (IsS36.ge HI131.out)) | exact HB.out)); rintro e w25 ⟨rfl, hi, hb, hk⟩; refine ⟨_, rfl, ?_⟩; have n0_ := Aside0.mk (hb); have n1_ := Aside0.mk (hi); clear HB; clear HI131; have HB := n0_; have HI131 := n1_; clear n0_ n1_; (try clear hb); (try clear hb2); (try clear hk); (try clear hi)))
                                go_ret
                                exact ⟨by first | rfl | (simp [errW_none, errW_some] <;> rfl) | (simp [*, errW_none, errW_some] <;> rfl), by repeat (first | (with_reducible first | exact HB.out | apply below_alloc | apply pw_below_drewN | apply below_drew1 | refine below_set ?_ (IsS36.ge HI131.out)) | exact HB.out)⟩
                              · rw [if_neg c24] at H
                                have c24b0 : (t141 != (x10_17 == x0_1)) = false := by simpa using c24
                                (try (have c24b1 : decide (t141 = (x10_17 == x0_1)) = true := by simpa using c24))
                                (try (have c24b2 : (t141 == (x10_17 == x0_1)) = true := by simpa using c24))
                                clear c24
                                by_cases c26 : t141 = true
                                · subst c26
                                  have H1 : (polyptychlaw17_AtomPlays.j3 kj17 (wrap64 ((rd l2 x9_1) + 1)) l1 l2 (wrap64 (x8_1 + 1)) x9_1 t142 t143) = some r := by rw [if_pos rfl] at H; exact H
                                  clear H
                                  have H := H1
                                  clear H1
                                  have H' := Aside0.mk H
                                  clear H
                                  have p140 : 0 ≤ (x9_1 : Int) := of_decide_eq_true (by first | (with_reducible assumption) | assumption)
                                  have q140 : x9_1 < (l2.length : Int) := of_decide_eq_true (by first | (with_reducible assumption) | assumption)
                                  obtain ⟨ad140, e140, hx140_0⟩ := Kd.at_int HR2.out x9_1 p140 q140
                                  cases e140
                                  replace hx140_0 := (HB.out.cell (World.block_lt_of_cell? w _ hx140_0)).trans hx140_0
                                  replace p140 := eq_true p140
                                  replace q140 := eq_true q140
                                  go_wp2_with (first | ((with_reducible refine gate_callee (f := 7) rfl ?_); refine goesL_ (some 72) rfl rfl Try.func7 (by kernel_rfl) rfl #[.pointer (some ⟨g131, 0, none⟩), .int .i64 x10_17, .int .i64 (wrap64 ((rd l2 x9_1) + 1))] rfl (by (try simp only [List.map_toArray, List.map_cons, List.map_nil]); first | done | rfl | (simp only [List.length_drop, List.length_take]; rfl)) ?_; (with_reducible refine (atom_Cell_Swap.calls g131 x132000_1 x132001_1 x10_17 (wrap64 ((rd l2 x9_1) + 1)) true t142 t143 w _ ?side1 ?side2 A23.out).mono ?_); (case side1 => repeat (first | (with_reducible first | exact HI131.out | apply IsS36.alloc | apply IsS36.drewN | apply IsS36.drew | apply IsS36.set_0 | apply IsS36.set_1) | exact HI131.out)); (case side2 => repeat (first | (with_reducible first | exact HB.out | apply below_alloc | apply pw_below_drewN | apply below_drew1 | refine below_set ?_ (IsS36.ge HI131.out)) | exact HB.out)); rintro e w27 ⟨rfl, hi, hb, hk⟩; refine ⟨_, rfl, ?_⟩; have n0_ := Aside0.mk (hb); have n1_ := Aside0.mk (hi); clear HB; clear HI131; have HB := n0_; have HI131 := n1_; clear n0_ n1_; (try clear hb); (try clear hb2); (try clear hk); (try clear hi); have p144 : 0 ≤ (x9_1 : Int) := of_decide_eq_true (by first | (with_reducible assumption) | assumption); have q144 : x9_1 < (l2.length : Int) := of_decide_eq_true (by first | (with_reducible assumption) | assumption); obtain ⟨ad144, e144, hx144_0⟩ := Kd.at_int HR2.out x9_1 p144 q144; obtain rfl : ad140 = ad144 := (by injection e144); replace hx144_0 := (HB.out.cell (World.block_lt_of_cell? w _ hx144_0)).trans hx144_0; replace p144 := eq_true p144; replace q144 := eq_true q144))
                                  go_meet
                                  case rel => exact ⟨_, (wrap64 ((rd l2 x9_1) + 1)), (wrap64 (x8_1 + 1)), (t142), (t143), (by first | rfl | (simp; done) | (simp [*]; done)), (by first | rfl | (simp; done) | (simp [*]; done)), H', ⟨by have := HK1.out; have := HJ5.out; have := HJ17.out; first | omega | exact Nat.le_refl _⟩, ⟨by repeat (first | (with_reducible first | exact HI131.out | apply IsS36.alloc | apply IsS36.drewN | apply IsS36.drew | apply IsS36.set_0 | apply IsS36.set_1) | exact HI131.out)⟩, ⟨by repeat (first | (with_reducible first | exact HB.out | apply below_alloc | apply pw_below_drewN | apply below_drew1 | refine below_set ?_ (IsS36.ge HI131.out)) | exact HB.out)⟩⟩
                                · replace c26 := Bool.eq_false_iff.mpr c26
                                  subst c26
                                  have H1 : (polyptychlaw17_AtomPlays.j3 kj17 x0_1 l1 l2 x8_1 x9_1 t142 t143) = some r := by rw [if_neg (show ¬ (false = true) by decide)] at H; exact H
                                  clear H
                                  have H := H1
                                  clear H1
                                  have H' := Aside0.mk H
                                  clear H
                                  have p140 : 0 ≤ (x9_1 : Int) := of_decide_eq_true (by first | (with_reducible assumption) | assumption)
                                  have q140 : x9_1 < (l2.length : Int) := of_decide_eq_true (by first | (with_reducible assumption) | assumption)
                                  obtain ⟨ad140, e140, hx140_0⟩ := Kd.at_int HR2.out x9_1 p140 q140
                                  cases e140
                                  replace hx140_0 := (HB.out.cell (World.block_lt_of_cell? w _ hx140_0)).trans hx140_0
                                  replace p140 := eq_true p140
                                  replace q140 := eq_true q140
                                  go_wp2_with (first | ((with_reducible refine gate_callee (f := 7) rfl ?_); refine goesL_ (some 72) rfl rfl Try.func7 (by kernel_rfl) rfl #[.pointer (some ⟨g131, 0, none⟩), .int .i64 x10_17, .int .i64 (wrap64 ((rd l2 x9_1) + 1))] rfl (by (try simp only [List.map_toArray, List.map_cons, List.map_nil]); first | done | rfl | (simp only [List.length_drop, List.length_take]; rfl)) ?_; (with_reducible refine (atom_Cell_Swap.calls g131 x132000_1 x132001_1 x10_17 (wrap64 ((rd l2 x9_1) + 1)) false t142 t143 w _ ?side1 ?side2 A23.out).mono ?_); (case side1 => repeat (first | (with_reducible first | exact HI131.out | apply IsS36.alloc | apply IsS36.drewN | apply IsS36.drew | apply IsS36.set_0 | apply IsS36.set_1) | exact HI131.out)); (case side2 => repeat (first | (with_reducible first | exact HB.out | apply below_alloc | apply pw_below_drewN | apply below_drew1 | refine below_set ?_ (IsS36.ge HI131.out)) | exact HB.out)); rintro e w28 ⟨rfl, hi, hb, hk⟩; refine ⟨_, rfl, ?_⟩; have n0_ := Aside0.mk (hb); have n1_ := Aside0.mk (hi); clear HB; clear HI131; have HB := n0_; have HI131 := n1_; clear n0_ n1_; (try clear hb); (try clear hb2); (try clear hk); (try clear hi)))
                                  go_meet
                                  case rel => exact ⟨_, (x0_1), (x8_1), (t142), (t143), (by first | rfl | (simp; done) | (simp [*]; done)), (by first | rfl | (simp; done) | (simp [*]; done)), H', ⟨by have := HK1.out; have := HJ5.out; have := HJ17.out; first | omega | exact Nat.le_refl _⟩, ⟨by repeat (first | (with_reducible first | exact HI131.out | apply IsS36.alloc | apply IsS36.drewN | apply IsS36.drew | apply IsS36.set_0 | apply IsS36.set_1) | exact HI131.out)⟩, ⟨by repeat (first | (with_reducible first | exact HB.out | apply below_alloc | apply pw_below_drewN | apply below_drew1 | refine below_set ?_ (IsS36.ge HI131.out)) | exact HB.out)⟩⟩
                            · rw [if_neg c22] at H
                              exact absurd H (by simp)
                          · rw [if_neg c21] at H
                            exact absurd H (by simp)
                    · rw [if_neg c17] at H
                      have c17b0 : ((Go.bits .and .i64 (rd l1 x9_1) 3) == 1) = false := beq_eq_false_iff_ne.mpr c17
                      have c17b1 : ((Go.bits .and .i64 (rd l1 x9_1) 3) != 1) = true := bne_iff_ne.mpr c17
                      by_cases c29 : (Go.bits .and .i64 (rd l1 x9_1) 3) = 2
                      · rw [if_pos c29] at H
                        have c29b0 : ((Go.bits .and .i64 (rd l1 x9_1) 3) == 2) = true := beq_iff_eq.mpr c29
                        have c29b1 : ((Go.bits .and .i64 (rd l1 x9_1) 3) != 2) = false := bne_eq_false_iff_eq.mpr c29
                        clear c29
                        by_cases c30 : x9_1 < (l2.length : Int)
                        · rw [if_pos c30] at H
                          have c30b0 : decide (x9_1 < (l2.length : Int)) = true := decide_eq_true c30
                          clear c30
                          replace H := Option.bind_eq_some_iff.mp H
                          obtain ⟨⟨t146, t147, t148⟩, A310, H⟩ := H
                          replace H : (if t146 = x0_1 then (polyptychlaw17_AtomPlays.j3 kj5 (wrap64 (x0_1 + (rd l2 x9_1))) l1 l2 (wrap64 (x8_1 + 1)) x9_1 t147 t148) else (some false)) = some r := H
                          have A31 := Aside0.mk A310
                          clear A310
                          by_cases c32 : t146 = x0_1
                          · rw [if_pos c32] at H
                            have c32b0 : (t146 == x0_1) = true := beq_iff_eq.mpr c32
                            have c32b1 : (t146 != x0_1) = false := bne_eq_false_iff_eq.mpr c32
                            clear c32
                            have H' := Aside0.mk H
                            clear H
                            have p145 : 0 ≤ (x9_1 : Int) := of_decide_eq_true (by first | (with_reducible assumption) | assumption)
                            have q145 : x9_1 < (l2.length : Int) := of_decide_eq_true (by first | (with_reducible assumption) | assumption)
                            obtain ⟨ad145, e145, hx145_0⟩ := Kd.at_int HR2.out x9_1 p145 q145
                            cases e145
                            replace hx145_0 := (HB.out.cell (World.block_lt_of_cell? w _ hx145_0)).trans hx145_0
                            replace p145 := eq_true p145
                            replace q145 := eq_true q145
                            go_wp2_with (first | ((with_reducible refine gate_callee (f := 8) rfl ?_); refine goesL_ (some 93) rfl rfl Try.func8 (by kernel_rfl) rfl #[.pointer (some ⟨g131, 0, none⟩), .int .i64 (rd l2 x9_1)] rfl (by (try simp only [List.map_toArray, List.map_cons, List.map_nil]); first | done | rfl | (simp only [List.length_drop, List.length_take]; rfl)) ?_; (with_reducible refine (atom_Cell_Add.calls g131 x132000_1 x132001_1 (rd l2 x9_1) t146 t147 t148 w _ ?side1 ?side2 A31.out).mono ?_); (case side1 => repeat (first | (with_reducible first | exact HI131.out | apply IsS36.alloc | apply IsS36.drewN | apply IsS36.drew | apply IsS36.set_0 | apply IsS36.set_1) | exact HI131.out)); (case side2 => repeat (first | (with_reducible first | exact HB.out | apply below_alloc | apply pw_below_drewN | apply below_drew1 | refine below_set ?_ (IsS36.ge HI131.out)) | exact HB.out)); rintro e w33 ⟨rfl, hi, hb, hk⟩; refine ⟨_, rfl, ?_⟩; have n0_ := Aside0.mk (hb); have n1_ := Aside0.mk (hi); clear HB; clear HI131; have HB := n0_; have HI131 := n1_; clear n0_ n1_; (try clear hb); (try clear hb2); (try clear hk); (try clear hi); have p149 : 0 ≤ (x9_1 : Int) := of_decide_eq_true (by first | (with_reducible assumption) | assumption); have q149 : x9_1 < (l2.length : Int) := of_decide_eq_true (by first | (with_reducible assumption) | assumption); obtain ⟨ad149, e149, hx149_0⟩ := Kd.at_int HR2.out x9_1 p149 q149; obtain rfl : ad145 = ad149 := (by injection e149); replace hx149_0 := (HB.out.cell (World.block_lt_of_cell? w _ hx149_0)).trans hx149_0; replace p149 := eq_true p149; replace q149 := eq_true q149))
                            go_meet
                            case rel => exact ⟨_, (wrap64 (x0_1 + (rd l2 x9_1))), (wrap64 (x8_1 + 1)), (t147), (t148), (by first | rfl | (simp; done) | (simp [*]; done)), (by first | rfl | (simp; done) | (simp [*]; done)), H', ⟨by have := HK1.out; have := HJ5.out; first | omega | exact Nat.le_refl _⟩, ⟨by repeat (first | (with_reducible first | exact HI131.out | apply IsS36.alloc | apply IsS36.drewN | apply IsS36.drew | apply IsS36.set_0 | apply IsS36.set_1) | exact HI131.out)⟩, ⟨by repeat (first | (with_reducible first | exact HB.out | apply below_alloc | apply pw_below_drewN | apply below_drew1 | refine below_set ?_ (IsS36.ge HI131.out)) | exact HB.out)⟩⟩
                          · rw [if_neg c32] at H
                            have c32b0 : (t146 == x0_1) = false := beq_eq_false_iff_ne.mpr c32
                            have c32b1 : (t146 != x0_1) = true := bne_iff_ne.mpr c32
                            obtain rfl := Option.some.inj H
                            have p145 : 0 ≤ (x9_1 : Int) := of_decide_eq_true (by first | (with_reducible assumption) | assumption)
                            have q145 : x9_1 < (l2.length : Int) := of_decide_eq_true (by first | (with_reducible assumption) | assumption)
                            obtain ⟨ad145, e145, hx145_0⟩ := Kd.at_int HR2.out x9_1 p145 q145
                            cases e145
                            replace hx145_0 := (HB.out.cell (World.block_lt_of_cell? w _ hx145_0)).trans hx145_0
                            replace p145 := eq_true p145
                            replace q145 := eq_true q145
                            go_wp2_with (first | ((with_reducible refine gate_callee (f := 8) rfl ?_); refine goesL_ (some 93) rfl rfl Try.func8 (by kernel_rfl) rfl #[.pointer (some ⟨g131, 0, none⟩), .int .i64 (rd l2 x9_1)] rfl (by (try simp only [List.map_toArray, List.map_cons, List.map_nil]); first | done | rfl | (simp only [List.length_drop, List.length_take]; rfl)) ?_; (with_reducible refine (atom_Cell_Add.calls g131 x132000_1 x132001_1 (rd l2 x9_1) t146 t147 t148 w _ ?side1 ?side2 A31.out).mono ?_); (case side1 => repeat (first | (with_reducible first | exact HI131.out | apply IsS36.alloc | apply IsS36.drewN | apply IsS36.drew | apply IsS36.set_0 | apply IsS36.set_1) | exact HI131.out)); (case side2 => repeat (first | (with_reducible first | exact HB.out | apply below_alloc | apply pw_below_drewN | apply below_drew1 | refine below_set ?_ (IsS36.ge HI131.out)) | exact HB.out)); rintro e w34 ⟨rfl, hi, hb, hk⟩; refine ⟨_, rfl, ?_⟩; have n0_ := Aside0.mk (hb); have n1_ := Aside0.mk (hi); clear HB; clear HI131; have HB := n0_; have HI131 := n1_; clear n0_ n1_; (try clear hb); (try clear hb2); (try clear hk); (try clear hi)))
                            go_ret
                            exact ⟨by first | rfl | (simp [errW_none, errW_some] <;> rfl) | (simp [*, errW_none, errW_some] <;> rfl), by repeat (first | (with_reducible first | exact HB.out | apply below_alloc | apply pw_below_drewN | apply below_drew1 | refine below_set ?_ (IsS36.ge HI131.out)) | exact HB.out)⟩
                        · rw [if_neg c30] at H
                          exact absurd H (by simp)
                      · rw [if_neg c29] at H
                        have c29b0 : ((Go.bits .and .i64 (rd l1 x9_1) 3) == 2) = false := beq_eq_false_iff_ne.mpr c29
                        have c29b1 : ((Go.bits .and .i64 (rd l1 x9_1) 3) != 2) = true := bne_iff_ne.mpr c29
                        have H' := Aside0.mk H
                        clear H
                        go_wp2
                        go_meet
                        case rel => exact ⟨_, (x0_1), (x8_1), (x132000_1), (x132001_1), (by first | rfl | (simp; done) | (simp [*]; done)), (by first | rfl | (simp; done) | (simp [*]; done)), H', ⟨by have := HK1.out; have := HJ5.out; first | omega | exact Nat.le_refl _⟩, ⟨by repeat (first | (with_reducible first | exact HI131.out | apply IsS36.alloc | apply IsS36.drewN | apply IsS36.drew | apply IsS36.set_0 | apply IsS36.set_1) | exact HI131.out)⟩, ⟨by repeat (first | (with_reducible first | exact HB.out | apply below_alloc | apply pw_below_drewN | apply below_drew1 | refine below_set ?_ (IsS36.ge HI131.out)) | exact HB.out)⟩⟩
                case rest =>
                  clear HC12
                  try clear c1
                  try clear p1
                  try clear q1
                  try clear hx1
                  try clear c2
                  try clear p2
                  try clear c3
                  try clear c4
                  try clear c5
                  try clear p6
                  try clear c7
                  try clear c7b0
                  try clear c8
                  try clear c8b0
                  try clear c9
                  try clear c10
                  try clear c10b0
                  try clear c11
                  try clear c11b0
                  try clear c13
                  try clear c13b0
                  try clear c13b1
                  try clear p13
                  try clear q13
                  try clear hx13
                  try clear c14
                  try clear c14b0
                  try clear p14
                  try clear q14
                  try clear hx14
                  try clear c17
                  try clear c17b0
                  try clear c17b1
                  try clear c19
                  try clear c19b0
                  try clear c19b1
                  try clear c20
                  try clear c20b0
                  try clear c21
                  try clear c21b0
                  try clear c22
                  try clear c22b0
                  try clear c24
                  try clear c24b0
                  try clear c24b1
                  try clear c24b2
                  try clear c26
                  try clear c29
                  try clear c29b0
                  try clear c29b1
                  try clear c30
                  try clear c30b0
                  try clear c32
                  try clear c32b0
                  try clear c32b1
                  try clear hx133_0
                  try clear hx134_0
                  try clear hx137_0
                  try clear hx138_0
                  try clear hx139_0
                  try clear hx140_0
                  try clear hx144_0
                  try clear hx145_0
                  try clear hx149_0
                  try clear p1
                  try clear p13
                  try clear p133
                  try clear p134
                  try clear p137
                  try clear p138
                  try clear p139
                  try clear p140
                  try clear p144
                  try clear p145
                  try clear p149
                  try clear p2
                  try clear p6
                  try clear q1
                  try clear q13
                  try clear q133
                  try clear q134
                  try clear q137
                  try clear q138
                  try clear q139
                  try clear q140
                  try clear q144
                  try clear q145
                  try clear q149
                  obtain ⟨kq, x0_11, x8_11, x132000_11, x132001_11, rfl, rfl, HA, HJ11, HI131, HB⟩ := hcut
                  cases kq with
                  | zero => exact absurd HA.out (by simp [polyptychlaw17_AtomPlays.j3])
                  | succ kj11 =>
                    have H := HA.out
                    clear HA
                    simp only [polyptychlaw17_AtomPlays.j3] at H
                    replace H := Option.bind_eq_some_iff.mp H
                    obtain ⟨⟨t150, t151, t152⟩, A350, H⟩ := H
                    replace H : (if t150 = x0_11 then ((atom_Cell_Times.f t151 t152).bind fun bt153 => (if bt153.1 = x8_11 then (polyptychlaw17_AtomPlays.l0 kj11 x0_11 l1 l2 x8_11 (wrap64 (x9_1 + 1)) bt153.2.1 bt153.2.2) else (some false))) else (some false)) = some r := H
                    have A35 := Aside0.mk A350
                    clear A350
                    by_cases c36 : t150 = x0_11
                    · rw [if_pos c36] at H
                      have c36b0 : (t150 == x0_11) = true := beq_iff_eq.mpr c36
                      have c36b1 : (t150 != x0_11) = false := bne_eq_false_iff_eq.mpr c36
                      clear c36
                      replace H := Option.bind_eq_some_iff.mp H
                      obtain ⟨⟨t153, t154, t155⟩, A370, H⟩ := H
                      replace H : (if t153 = x8_11 then (polyptychlaw17_AtomPlays.l0 kj11 x0_11 l1 l2 x8_11 (wrap64 (x9_1 + 1)) t154 t155) else (some false)) = some r := H
                      have A37 := Aside0.mk A370
                      clear A370
                      by_cases c38 : t153 = x8_11
                      · rw [if_pos c38] at H
                        have c38b0 : (t153 == x8_11) = true := beq_iff_eq.mpr c38
                        have c38b1 : (t153 != x8_11) = false := bne_eq_false_iff_eq.mpr c38
                        clear c38
                        have H' := Aside0.mk H
                        clear H
                        go_wp2_with (first | ((with_reducible refine gate_callee (f := 6) rfl ?_); refine goesL_ (some 105) rfl rfl Try.func6 (by kernel_rfl) rfl #[.pointer (some ⟨g131, 0, none⟩)] rfl (by (try simp only [List.map_toArray, List.map_cons, List.map_nil]); first | done | rfl | (simp only [List.length_drop, List.length_take]; rfl)) ?_; (with_reducible refine (atom_Cell_Load.calls g131 x132000_11 x132001_11 t150 t151 t152 w _ ?side1 ?side2 A35.out).mono ?_); (case side1 => repeat (first | (with_reducible first | exact HI131.out | apply IsS36.alloc | apply IsS36.drewN | apply IsS36.drew | apply IsS36.set_0 | apply IsS36.set_1) | exact HI131.out)); (case side2 => repeat (first | (with_reducible first | exact HB.out | apply below_alloc | apply pw_below_drewN | apply below_drew1 | refine below_set ?_ (IsS36.ge HI131.out)) | exact HB.out)); rintro e w39 ⟨rfl, hi, hb, hk⟩; refine ⟨_, rfl, ?_⟩; have n0_ := Aside0.mk (hb); have n1_ := Aside0.mk (hi); clear HB; clear HI131; have HB := n0_; have HI131 := n1_; clear n0_ n1_; (try clear hb); (try clear hb2); (try clear hk); (try clear hi)) | (go_at_call 9; (with_reducible refine (atom_Cell_Times.calls g131 t151 t152 t153 t154 t155 w _ ?side1 ?side2 A37.out).mono ?_); (case side1 => repeat (first | (with_reducible first | exact HI131.out | apply IsS36.alloc | apply IsS36.drewN | apply IsS36.drew | apply IsS36.set_0 | apply IsS36.set_1) | exact HI131.out)); (case side2 => repeat (first | (with_reducible first | exact HB.out | apply below_alloc | apply pw_below_drewN | apply below_drew1 | refine below_set ?_ (IsS36.ge HI131.out)) | exact HB.out)); rintro e w40 ⟨rfl, hi, hb, hk⟩; have n0_ := Aside0.mk (hb); have n1_ := Aside0.mk (hi); clear HB; clear HI131; have HB := n0_; have HI131 := n1_; clear n0_ n1_; (try clear hb); (try clear hb2); (try clear hk); (try clear hi)))
                        go_roundg kj11
                        case measure => have := HK1.out; have := HJ5.out; have := HJ11.out; omega
                        case rel => exact ⟨(x0_11), (x8_11), (wrap64 (x9_1 + 1)), (t154), (t155), (by first | rfl | (simp; done) | (simp [*]; done)), (by first | rfl | (simp; done) | (simp [*]; done)), (by first | rfl | (simp; done) | (simp [*]; done)), H', ⟨by have := HK1.out; have := HJ5.out; have := HJ11.out; omega⟩, ⟨by repeat (first | (with_reducible first | exact HI131.out | apply IsS36.alloc | apply IsS36.drewN | apply IsS36.drew | apply IsS36.set_0 | apply IsS36.set_1) | exact HI131.out)⟩, ⟨by repeat (first | (with_reducible first | exact HB.out | apply below_alloc | apply pw_below_drewN | apply below_drew1 | refine below_set ?_ (IsS36.ge HI131.out)) | exact HB.out)⟩⟩
                      · rw [if_neg c38] at H
                        have c38b0 : (t153 == x8_11) = false := beq_eq_false_iff_ne.mpr c38
                        have c38b1 : (t153 != x8_11) = true := bne_iff_ne.mpr c38
                        obtain rfl := Option.some.inj H
                        go_wp2_with (first | ((with_reducible refine gate_callee (f := 6) rfl ?_); refine goesL_ (some 105) rfl rfl Try.func6 (by kernel_rfl) rfl #[.pointer (some ⟨g131, 0, none⟩)] rfl (by (try simp only [List.map_toArray, List.map_cons, List.map_nil]); first | done | rfl | (simp only [List.length_drop, List.length_take]; rfl)) ?_; (with_reducible refine (atom_Cell_Load.calls g131 x132000_11 x132001_11 t150 t151 t152 w _ ?side1 ?side2 A35.out).mono ?_); (case side1 => repeat (first | (with_reducible first | exact HI131.out | apply IsS36.alloc | apply IsS36.drewN | apply IsS36.drew | apply IsS36.set_0 | apply IsS36.set_1) | exact HI131.out)); (case side2 => repeat (first | (with_reducible first | exact HB.out | apply below_alloc | apply pw_below_drewN | apply below_drew1 | refine below_set ?_ (IsS36.ge HI131.out)) | exact HB.out)); rintro e w41 ⟨rfl, hi, hb, hk⟩; refine ⟨_, rfl, ?_⟩; have n0_ := Aside0.mk (hb); have n1_ := Aside0.mk (hi); clear HB; clear HI131; have HB := n0_; have HI131 := n1_; clear n0_ n1_; (try clear hb); (try clear hb2); (try clear hk); (try clear hi)) | (go_at_call 9; (with_reducible refine (atom_Cell_Times.calls g131 t151 t152 t153 t154 t155 w _ ?side1 ?side2 A37.out).mono ?_); (case side1 => repeat (first | (with_reducible first | exact HI131.out | apply IsS36.alloc | apply IsS36.drewN | apply IsS36.drew | apply IsS36.set_0 | apply IsS36.set_1) | exact HI131.out)); (case side2 => repeat (first | (with_reducible first | exact HB.out | apply below_alloc | apply pw_below_drewN | apply below_drew1 | refine below_set ?_ (IsS36.ge HI131.out)) | exact HB.out)); rintro e w42 ⟨rfl, hi, hb, hk⟩; have n0_ := Aside0.mk (hb); have n1_ := Aside0.mk (hi); clear HB; clear HI131; have HB := n0_; have HI131 := n1_; clear n0_ n1_; (try clear hb); (try clear hb2); (try clear hk); (try clear hi)))
                        go_ret
                        exact ⟨by first | rfl | (simp [errW_none, errW_some] <;> rfl) | (simp [*, errW_none, errW_some] <;> rfl), by repeat (first | (with_reducible first | exact HB.out | apply below_alloc | apply pw_below_drewN | apply below_drew1 | refine below_set ?_ (IsS36.ge HI131.out)) | exact HB.out)⟩
                    · rw [if_neg c36] at H
                      have c36b0 : (t150 == x0_11) = false := beq_eq_false_iff_ne.mpr c36
                      have c36b1 : (t150 != x0_11) = true := bne_iff_ne.mpr c36
                      obtain rfl := Option.some.inj H
                      go_wp2_with (first | ((with_reducible refine gate_callee (f := 6) rfl ?_); refine goesL_ (some 105) rfl rfl Try.func6 (by kernel_rfl) rfl #[.pointer (some ⟨g131, 0, none⟩)] rfl (by (try simp only [List.map_toArray, List.map_cons, List.map_nil]); first | done | rfl | (simp only [List.length_drop, List.length_take]; rfl)) ?_; (with_reducible refine (atom_Cell_Load.calls g131 x132000_11 x132001_11 t150 t151 t152 w _ ?side1 ?side2 A35.out).mono ?_); (case side1 => repeat (first | (with_reducible first | exact HI131.out | apply IsS36.alloc | apply IsS36.drewN | apply IsS36.drew | apply IsS36.set_0 | apply IsS36.set_1) | exact HI131.out)); (case side2 => repeat (first | (with_reducible first | exact HB.out | apply below_alloc | apply pw_below_drewN | apply below_drew1 | refine below_set ?_ (IsS36.ge HI131.out)) | exact HB.out)); rintro e w43 ⟨rfl, hi, hb, hk⟩; refine ⟨_, rfl, ?_⟩; have n0_ := Aside0.mk (hb); have n1_ := Aside0.mk (hi); clear HB; clear HI131; have HB := n0_; have HI131 := n1_; clear n0_ n1_; (try clear hb); (try clear hb2); (try clear hk); (try clear hi)))
                      go_ret
                      exact ⟨by first | rfl | (simp [errW_none, errW_some] <;> rfl) | (simp [*, errW_none, errW_some] <;> rfl), by repeat (first | (with_reducible first | exact HB.out | apply below_alloc | apply pw_below_drewN | apply below_drew1 | refine below_set ?_ (IsS36.ge HI131.out)) | exact HB.out)⟩
              · rw [if_neg c11] at H
                exact absurd H (by simp)
            · rw [if_neg c10] at H
              exact absurd H (by simp)
          · replace c9 := Bool.eq_false_iff.mpr c9
            subst c9
            have H1 : ((polyptychlaw17_awake.f).bind fun t132 => (some t132)) = some r := by rw [if_neg (show ¬ (false = true) by decide)] at H; exact H
            clear H
            have H := H1
            clear H1
            replace H := Option.bind_eq_some_iff.mp H
            obtain ⟨t132, A440, H⟩ := H
            replace H : (some t132) = some r := H
            have A44 := Aside0.mk A440
            clear A440
            obtain rfl := Option.some.inj H
            go_wp2_with (first | ((with_reducible refine gate_callee (f := 10) rfl ?_); refine goesL_ (some 114) rfl rfl Try.func10 (by kernel_rfl) rfl #[] rfl (by (try simp only [List.map_toArray, List.map_cons, List.map_nil]); first | done | rfl | (simp only [List.length_drop, List.length_take]; rfl)) ?_; (with_reducible refine (polyptychlaw17_awake.calls  t132 _ A44.out).mono ?_); rintro e w45 ⟨rfl, hb⟩; refine ⟨_, rfl, ?_⟩; have n0_ := Aside0.mk (IsS36.below (by repeat (first | (with_reducible first | exact HI131.out | apply IsS36.alloc | apply IsS36.drewN | apply IsS36.drew | apply IsS36.set_0 | apply IsS36.set_1) | exact HI131.out)) hb); have n1_ := Aside0.mk (below_step (by repeat (first | (with_reducible first | exact HB.out | apply below_alloc | apply pw_below_drewN | apply below_drew1 | refine below_set ?_ (IsS36.ge HI131.out)) | exact HB.out)) hb); clear HI131; clear HB; have HI131 := n0_; have HB := n1_; clear n0_ n1_; (try clear hb); (try clear hb2); (try clear hk); (try clear hi)))
            go_ret
            exact ⟨by first | rfl | (simp [errW_none, errW_some] <;> rfl) | (simp [*, errW_none, errW_some] <;> rfl), by repeat (first | (with_reducible first | exact HB.out | apply below_alloc | apply pw_below_drewN | apply below_drew1 | refine below_set ?_ (IsS36.ge HI131.out)) | exact HB.out)⟩

/-- THE ONE PURE STATEMENT of polyptychlaw17_AtomPlays: yours. -/
def polyptychlaw17_AtomPlays.Pure : Prop := ∀ (a0 : Int) (l1 : List Int) (l2 : List Int), (Lit.int .i64 a0).wf = true → l1.length ≤ maxLen → l1.length * 8 ≤ 140737488351232 → (∀ x ∈ l1, (Lit.int .i64 x).wf = true) → l2.length ≤ maxLen → l2.length * 8 ≤ 140737488351232 → (∀ x ∈ l2, (Lit.int .i64 x).wf = true) → ∃ k, polyptychlaw17_AtomPlays.f k a0 l1 l2 = some true
theorem polyptychlaw17_AtomPlays.walk (P : polyptychlaw17_AtomPlays.Pure) (a0 : Int) (a1 : Option Addr) (len1 cap1 : Nat) (z1 : List Int) (a2 : Option Addr) (len2 cap2 : Nat) (z2 : List Int) (w : World) (w0 : (Lit.int .i64 a0).wf = true) (w1 : (a1 = none ∧ len1 = 0 ∧ cap1 = 0 ∧ z1 = []) ∨ ∃ x, a1 = some x ∧ len1 ≤ cap1 ∧ cap1 ≤ maxLen ∧ z1.length = cap1 ∧ (∀ i, i < z1.length → w.cell? (x.add i) = some (.int .i64 (z1.getD i 0))) ∧ ∀ n ∈ z1, (Lit.int .i64 n).wf = true) (y1 : len1 * 8 ≤ 140737488351232) (w2 : (a2 = none ∧ len2 = 0 ∧ cap2 = 0 ∧ z2 = []) ∨ ∃ x, a2 = some x ∧ len2 ≤ cap2 ∧ cap2 ≤ maxLen ∧ z2.length = cap2 ∧ (∀ i, i < z2.length → w.cell? (x.add i) = some (.int .i64 (z2.getD i 0))) ∧ ∀ n ∈ z2, (Lit.int .i64 n).wf = true) (y2 : len2 * 8 ≤ 140737488351232) :
    Calls Try.prog 4 #[.int .i64 a0, .slice a1 len1 cap1, .slice a2 len2 cap2] w fun e w' => e = .returned (.bool true) ∧ Below w.heap.size w w' := by
  obtain ⟨l1, rfl, hr1, hm1, hw1, hc1⟩ := ReadsInt.ofRowC w1
  obtain ⟨l2, rfl, hr2, hm2, hw2, hc2⟩ := ReadsInt.ofRowC w2
  obtain ⟨k, h⟩ := P a0 l1 l2 w0 hm1 y1 hw1 hm2 y2 hw2
  refine (polyptychlaw17_AtomPlays.calls k a0 _ _ l1 _ _ l2 true w (Kd.C_of_reads (d := (0 : Int)) (h1 := fun _ => rfl) hr1) hc1 (Kd.C_of_reads (d := (0 : Int)) (h1 := fun _ => rfl) hr2) hc2 h).mono ?_
  rintro e w' ⟨rfl, hd⟩
  exact ⟨rfl, hd⟩

end Go.Proofs.Ytbmbejgkkadklaa.PAtomPlays
