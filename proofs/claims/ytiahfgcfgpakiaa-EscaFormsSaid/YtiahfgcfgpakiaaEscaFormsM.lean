/- EscaForms: the table of escapes with their actions: plain facts on lists. -/
import Derived.Test.YtiahfgcfgpakiaaEscaStrM
namespace Go.Proofs.Ytiahfgcfgpakiaa.EscaFormsM
open Go Go.RowKit Go.Proofs.YtiahfgcfgpakiaaKit Go.Proofs.Ytiahfgcfgpakiaa.Mem Go.Proofs.YtiahfgcfgpakiaaW.PrintWords Go.Proofs.YtiahfgcfgpakiaaW.PrintLast Go.Proofs.Ytiahfgcfgpakiaa.Split Go.Proofs.Ytiahfgcfgpakiaa.EscaVal
set_option linter.unusedVariables false
set_option linter.unusedSimpArgs false
def strK (k : Nat) : ByteArray := match k with | 0 => ⟨#[97]⟩ | 1 => ⟨#[1, 31, 127]⟩ | 2 => ⟨#[7, 8, 13]⟩ | 3 => ⟨#[27, 91, 65]⟩ | 4 => ⟨#[27, 91, 48, 65]⟩ | 5 => ⟨#[27, 91, 59, 65]⟩ | 6 => ⟨#[27, 91, 59, 59, 65]⟩ | 7 => ⟨#[27, 91, 49, 59, 65]⟩ | 8 => ⟨#[27, 91, 49, 59, 50, 65]⟩ | 9 => ⟨#[27, 91, 55, 48, 48, 48, 48, 65]⟩ | 10 => ⟨#[27, 91, 49, 58, 50, 65]⟩ | 11 => ⟨#[27, 91, 62, 49, 65]⟩ | 12 => ⟨#[27, 91, 49, 32, 65]⟩ | 13 => ⟨#[27, 91, 63, 65]⟩ | 14 => ⟨#[27, 91, 63, 49, 59, 50, 104]⟩ | 15 => ⟨#[27, 91, 63, 63, 65]⟩ | 16 => ⟨#[27, 91, 49, 8, 65]⟩ | 17 => ⟨#[27, 91, 49, 24, 65]⟩ | 18 => ⟨#[27, 91, 49, 27, 91, 50, 65]⟩ | 19 => ⟨#[27, 55]⟩ | 20 => ⟨#[27, 40, 66, 97]⟩ | 21 => ⟨#[27, 7, 99]⟩ | 22 => ⟨#[27, 27, 99]⟩ | 23 => ⟨#[27, 93, 48, 59, 97, 98, 99, 7, 100]⟩ | 24 => ⟨#[27, 93, 48, 59, 97, 98, 99, 27, 92, 100]⟩ | 25 => ⟨#[27, 80, 97, 98, 99, 27, 100, 24, 101]⟩ | 26 => ⟨#[27, 255, 97]⟩ | 27 => ⟨#[194, 133]⟩ | 28 => ⟨#[195, 27, 91, 65]⟩ | 29 => ⟨#[27, 91, 128, 65]⟩ | _ => ⟨#[]⟩
def actsK (k : Nat) : List Act3 := match k with | 0 => [(1, 97, [])] | 1 => [] | 2 => [(2, 7, []), (2, 8, []), (2, 13, [])] | 3 => [(4, 65, [])] | 4 => [(4, 65, [0])] | 5 => [(4, 65, [(-1), (-1)])] | 6 => [(4, 65, [(-1), (-1), (-1)])] | 7 => [(4, 65, [1, (-1)])] | 8 => [(4, 65, [1, 2])] | 9 => [(4, 65, [65535])] | 10 => [] | 11 => [] | 12 => [] | 13 => [(5, 65, [])] | 14 => [(5, 104, [1, 2])] | 15 => [] | 16 => [(2, 8, []), (4, 65, [1])] | 17 => [(1, 65, [])] | 18 => [(4, 65, [2])] | 19 => [(3, 55, [])] | 20 => [(1, 97, [])] | 21 => [(2, 7, []), (3, 99, [])] | 22 => [(3, 99, [])] | 23 => [(1, 100, [])] | 24 => [(1, 100, [])] | 25 => [(1, 101, [])] | 26 => [(1, 97, [])] | 27 => [] | 28 => [(1, 65533, []), (4, 65, [])] | 29 => [(4, 65, [])] | _ => []
theorem all30 {Q : Nat → Prop} (h0 : Q 0) (h1 : Q 1) (h2 : Q 2) (h3 : Q 3) (h4 : Q 4) (h5 : Q 5) (h6 : Q 6) (h7 : Q 7) (h8 : Q 8) (h9 : Q 9) (h10 : Q 10) (h11 : Q 11) (h12 : Q 12) (h13 : Q 13) (h14 : Q 14) (h15 : Q 15) (h16 : Q 16) (h17 : Q 17) (h18 : Q 18) (h19 : Q 19) (h20 : Q 20) (h21 : Q 21) (h22 : Q 22) (h23 : Q 23) (h24 : Q 24) (h25 : Q 25) (h26 : Q 26) (h27 : Q 27) (h28 : Q 28) (h29 : Q 29) (k : Nat) (h : k ≤ 29) : Q k := by
  match k, h with
  | 0, _ => exact h0
  | 1, _ => exact h1
  | 2, _ => exact h2
  | 3, _ => exact h3
  | 4, _ => exact h4
  | 5, _ => exact h5
  | 6, _ => exact h6
  | 7, _ => exact h7
  | 8, _ => exact h8
  | 9, _ => exact h9
  | 10, _ => exact h10
  | 11, _ => exact h11
  | 12, _ => exact h12
  | 13, _ => exact h13
  | 14, _ => exact h14
  | 15, _ => exact h15
  | 16, _ => exact h16
  | 17, _ => exact h17
  | 18, _ => exact h18
  | 19, _ => exact h19
  | 20, _ => exact h20
  | 21, _ => exact h21
  | 22, _ => exact h22
  | 23, _ => exact h23
  | 24, _ => exact h24
  | 25, _ => exact h25
  | 26, _ => exact h26
  | 27, _ => exact h27
  | 28, _ => exact h28
  | 29, _ => exact h29
  | n + 30, h => exact absurd h (by omega)
theorem fed (k : Nat) (h : k ≤ 29) : feedP e0 (bytesOf (strK k)) = (e0, actsK k) := all30 (Q := fun k => feedP e0 (bytesOf (strK k)) = (e0, actsK k)) (by kernel_rfl) (by kernel_rfl) (by kernel_rfl) (by kernel_rfl) (by kernel_rfl) (by kernel_rfl) (by kernel_rfl) (by kernel_rfl) (by kernel_rfl) (by kernel_rfl) (by kernel_rfl) (by kernel_rfl) (by kernel_rfl) (by kernel_rfl) (by kernel_rfl) (by kernel_rfl) (by kernel_rfl) (by kernel_rfl) (by kernel_rfl) (by kernel_rfl) (by kernel_rfl) (by kernel_rfl) (by kernel_rfl) (by kernel_rfl) (by kernel_rfl) (by kernel_rfl) (by kernel_rfl) (by kernel_rfl) (by kernel_rfl) (by kernel_rfl) k h
theorem small (k : Nat) (h : k ≤ 29) : (strK k).size ≤ 20 ∧ (actsK k).length ≤ 5 ∧ ((actsK k).all (fun a => decide (a.2.2.length ≤ 10))) = true := all30 (Q := fun k => (strK k).size ≤ 20 ∧ (actsK k).length ≤ 5 ∧ ((actsK k).all (fun a => decide (a.2.2.length ≤ 10))) = true) (by decide +kernel) (by decide +kernel) (by decide +kernel) (by decide +kernel) (by decide +kernel) (by decide +kernel) (by decide +kernel) (by decide +kernel) (by decide +kernel) (by decide +kernel) (by decide +kernel) (by decide +kernel) (by decide +kernel) (by decide +kernel) (by decide +kernel) (by decide +kernel) (by decide +kernel) (by decide +kernel) (by decide +kernel) (by decide +kernel) (by decide +kernel) (by decide +kernel) (by decide +kernel) (by decide +kernel) (by decide +kernel) (by decide +kernel) (by decide +kernel) (by decide +kernel) (by decide +kernel) (by decide +kernel) k h
end Go.Proofs.Ytiahfgcfgpakiaa.EscaFormsM


