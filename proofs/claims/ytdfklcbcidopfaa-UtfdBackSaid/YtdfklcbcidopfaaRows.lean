/-
  No cell of these rows narrows 'for every input' (looked for: loops, veiled, ifaces, maps, wideKeys, modest, calm, conditions, laid).
  DERIVED. THE GIVEN ROWS OF THIS SEAT. 4 by the template 'for every input the law returns true; each argument reads behind the call as it read before'; 0 by the template 'total and deterministic' (their statements: YtdfklcbcidopfaaTotals.lean).
  GIVEN WITH THE SEED: the statements are not yours to turn. If you find one false, say at which input.
  Laid BY PROGRAM, IN A SANDBOX (cutbox-rows.mjs): the forced cells as the released guide's own fill.sh prints them over the translation 67ba686929c25ed3… (all of the seat's roots in one cut). By AI agents, Wed Nov 11 2026. No macro, syntax, notation, axiom, sorry.
-/
import Derived.Test.YtdfklcbcidopfaaChecked
import GoSem.Claim
import GoSem.ClaimJoined
import GoSem.ClaimMapViews
import Derived.JoinedTies
import Derived.KernelRfl
namespace Go.Proofs.Ytdfklcbcidopfaa
/- THE CELL 'sum', in the pinned program and in every row, IS THE sha256 OF THE DUMP (.gsa) THAT YtdfklcbcidopfaaProg.lean LOADS. Nothing in Lean hashes anything: it is a label: what it is worth is what the hold of that sum in a sandbox is worth. -/
noncomputable def Try.pinned : Pinned := { name := "ytdfklcbcidopfaa", sum := "67ba686929c25ed34c83b5e090f5a18867adb02667d6161aa413bf04b2c456ba", checked := Try.checked }
namespace Rows
def none {H : Type} : Left H := { results := [], args := [] }

/-- 'polyptychlaw1.UtfdForms': WHATEVER THE INPUT: true; the input reads as it did. -/
def utfdFormsSpec : ChangeSpec := { name := "utfdForms", fn := fun _ => fun
  | [d] => { results := [.lit (.bool true)], args := [d] }
  | _ => none }
def utfdFormsRow : OpenClaim := { program := "ytdfklcbcidopfaa", sum := "67ba686929c25ed34c83b5e090f5a18867adb02667d6161aa413bf04b2c456ba", func := "polyptych/polyptychlaw1.UtfdForms", spec := "utfdForms", apart := false }
def UtfdFormsSaid : Prop := utfdFormsRow.holds Try.pinned (OpenSpec.ofChange utfdFormsSpec)

/-- ITS FALSE NEIGHBOUR: 'it returns false'. Refute it at one input. -/
def utfdFormsWrong : ChangeSpec := { name := "utfdForms", fn := fun _ => fun
  | [d] => { results := [.lit (.bool false)], args := [d] }
  | _ => none }
def UtfdFormsWrongFalsely : Prop := utfdFormsRow.holds Try.pinned (OpenSpec.ofChange utfdFormsWrong)

/-- 'polyptychlaw1.UtfdCounts': WHATEVER THE INPUT: true; the input reads as it did. -/
def utfdCountsSpec : ChangeSpec := { name := "utfdCounts", fn := fun _ => fun
  | [d] => { results := [.lit (.bool true)], args := [d] }
  | _ => none }
def utfdCountsRow : OpenClaim := { program := "ytdfklcbcidopfaa", sum := "67ba686929c25ed34c83b5e090f5a18867adb02667d6161aa413bf04b2c456ba", func := "polyptych/polyptychlaw1.UtfdCounts", spec := "utfdCounts", apart := false }
def UtfdCountsSaid : Prop := utfdCountsRow.holds Try.pinned (OpenSpec.ofChange utfdCountsSpec)

/-- ITS FALSE NEIGHBOUR: 'it returns false'. Refute it at one input. -/
def utfdCountsWrong : ChangeSpec := { name := "utfdCounts", fn := fun _ => fun
  | [d] => { results := [.lit (.bool false)], args := [d] }
  | _ => none }
def UtfdCountsWrongFalsely : Prop := utfdCountsRow.holds Try.pinned (OpenSpec.ofChange utfdCountsWrong)

/-- 'polyptychlaw1.UtfdTells': WHATEVER THE INPUT: true; the input reads as it did. -/
def utfdTellsSpec : ChangeSpec := { name := "utfdTells", fn := fun _ => fun
  | [d1, d2, d3] => { results := [.lit (.bool true)], args := [d1, d2, d3] }
  | _ => none }
def utfdTellsRow : OpenClaim := { program := "ytdfklcbcidopfaa", sum := "67ba686929c25ed34c83b5e090f5a18867adb02667d6161aa413bf04b2c456ba", func := "polyptych/polyptychlaw1.UtfdTells", spec := "utfdTells", apart := false }
def UtfdTellsSaid : Prop := utfdTellsRow.holds Try.pinned (OpenSpec.ofChange utfdTellsSpec)

/-- ITS FALSE NEIGHBOUR: 'it returns false'. Refute it at one input. -/
def utfdTellsWrong : ChangeSpec := { name := "utfdTells", fn := fun _ => fun
  | [d1, d2, d3] => { results := [.lit (.bool false)], args := [d1, d2, d3] }
  | _ => none }
def UtfdTellsWrongFalsely : Prop := utfdTellsRow.holds Try.pinned (OpenSpec.ofChange utfdTellsWrong)

/-- 'polyptychlaw1.UtfdBack': WHATEVER THE INPUT: true; the input reads as it did. -/
def utfdBackSpec : ChangeSpec := { name := "utfdBack", fn := fun _ => fun
  | [d] => { results := [.lit (.bool true)], args := [d] }
  | _ => none }
def utfdBackRow : OpenClaim := { program := "ytdfklcbcidopfaa", sum := "67ba686929c25ed34c83b5e090f5a18867adb02667d6161aa413bf04b2c456ba", func := "polyptych/polyptychlaw1.UtfdBack", spec := "utfdBack", apart := false }
def UtfdBackSaid : Prop := utfdBackRow.holds Try.pinned (OpenSpec.ofChange utfdBackSpec)

/-- ITS FALSE NEIGHBOUR: 'it returns false'. Refute it at one input. -/
def utfdBackWrong : ChangeSpec := { name := "utfdBack", fn := fun _ => fun
  | [d] => { results := [.lit (.bool false)], args := [d] }
  | _ => none }
def UtfdBackWrongFalsely : Prop := utfdBackRow.holds Try.pinned (OpenSpec.ofChange utfdBackWrong)

/- THE SECOND FORM. 'bulk': how many values and letters a reading holds, each counted each time it is reached (what is shared counts as often as it is met; a slice's spare places count too). A statement '..UptoSaid' is the law's where the arguments, and the package variables that the reading takes, are together of bulk at most 1048576: NARROWER than '..Said'. Prove '..Said' where nothing that the law and all that it calls make is longer than what came in: it says more and counts as full. Else prove '..UptoSaid'. A law counts once. -/
mutual
def uptoBulk {H : Type} : DataW H → Nat
  | .lit (.string bytes) => bytes.length + 1
  | .lit _ => 1
  | .nil => 1
  | .ptr d => uptoBulk d + 1
  | .slice elems spare => uptoBulkAll elems + uptoBulkAll spare + 1
  | .agg parts => uptoBulkAll parts + 1
  | .iface _ d => uptoBulk d + 1
  | .map entries => uptoBulkEntries entries + 1
  | .held _ => 1
def uptoBulkAll {H : Type} : List (DataW H) → Nat
  | [] => 0
  | d :: r => uptoBulk d + uptoBulkAll r
def uptoBulkEntries {H : Type} : List (Lit × DataW H) → Nat
  | [] => 0
  | x :: r => uptoBulkEntry x + uptoBulkEntries r
def uptoBulkEntry {H : Type} : Lit × DataW H → Nat
  | (.string bytes, d) => bytes.length + uptoBulk d + 1
  | (_, d) => uptoBulk d + 1
 end
def uptoSmall : (H : Type) → List (DataW H) → Bool := fun _ ds => decide (uptoBulkAll ds ≤ 1048576)
def OpenSpec.upto (s : _root_.Go.ChangeSpec) : _root_.Go.OpenSpec := { _root_.Go.OpenSpec.ofChange s with cond := some uptoSmall }

/-- 'polyptychlaw1.UtfdForms', WHERE WHAT IT READS IS OF BULK AT MOST 1048576: true; the input reads as it did. -/
def utfdFormsUptoRow : OpenClaim := { program := "ytdfklcbcidopfaa", sum := "67ba686929c25ed34c83b5e090f5a18867adb02667d6161aa413bf04b2c456ba", func := "polyptych/polyptychlaw1.UtfdForms", spec := "utfdForms", apart := false, narrowed := true }
def UtfdFormsUptoSaid : Prop := utfdFormsUptoRow.holds Try.pinned (OpenSpec.upto utfdFormsSpec)

/-- 'polyptychlaw1.UtfdCounts', WHERE WHAT IT READS IS OF BULK AT MOST 1048576: true; the input reads as it did. -/
def utfdCountsUptoRow : OpenClaim := { program := "ytdfklcbcidopfaa", sum := "67ba686929c25ed34c83b5e090f5a18867adb02667d6161aa413bf04b2c456ba", func := "polyptych/polyptychlaw1.UtfdCounts", spec := "utfdCounts", apart := false, narrowed := true }
def UtfdCountsUptoSaid : Prop := utfdCountsUptoRow.holds Try.pinned (OpenSpec.upto utfdCountsSpec)

/-- 'polyptychlaw1.UtfdTells', WHERE WHAT IT READS IS OF BULK AT MOST 1048576: true; the input reads as it did. -/
def utfdTellsUptoRow : OpenClaim := { program := "ytdfklcbcidopfaa", sum := "67ba686929c25ed34c83b5e090f5a18867adb02667d6161aa413bf04b2c456ba", func := "polyptych/polyptychlaw1.UtfdTells", spec := "utfdTells", apart := false, narrowed := true }
def UtfdTellsUptoSaid : Prop := utfdTellsUptoRow.holds Try.pinned (OpenSpec.upto utfdTellsSpec)

/-- 'polyptychlaw1.UtfdBack', WHERE WHAT IT READS IS OF BULK AT MOST 1048576: true; the input reads as it did. -/
def utfdBackUptoRow : OpenClaim := { program := "ytdfklcbcidopfaa", sum := "67ba686929c25ed34c83b5e090f5a18867adb02667d6161aa413bf04b2c456ba", func := "polyptych/polyptychlaw1.UtfdBack", spec := "utfdBack", apart := false, narrowed := true }
def UtfdBackUptoSaid : Prop := utfdBackUptoRow.holds Try.pinned (OpenSpec.upto utfdBackSpec)

end Rows
end Go.Proofs.Ytdfklcbcidopfaa
