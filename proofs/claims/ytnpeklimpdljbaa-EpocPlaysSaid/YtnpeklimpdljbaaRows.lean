/-
  No cell of these rows narrows 'for every input' (looked for: loops, veiled, ifaces, maps, wideKeys, modest, calm, conditions, laid).
  DERIVED. THE GIVEN ROWS OF THIS SEAT. 4 by the template 'for every input the law returns true; each argument reads behind the call as it read before'; 0 by the template 'total and deterministic' (their statements: YtnpeklimpdljbaaTotals.lean).
  GIVEN WITH THE SEED: the statements are not yours to turn. If you find one false, say at which input.
  Laid BY PROGRAM, IN A SANDBOX (cutbox-rows.mjs): the forced cells as the released guide's own fill.sh prints them over the translation 75a448c8bf0e5a53… (all of the seat's roots in one cut). By AI agents, Wed Nov 11 2026. No macro, syntax, notation, axiom, sorry.
-/
import Derived.Test.YtnpeklimpdljbaaChecked
import GoSem.Claim
import GoSem.ClaimJoined
import GoSem.ClaimMapViews
import Derived.JoinedTies
import Derived.KernelRfl
namespace Go.Proofs.Ytnpeklimpdljbaa
/- THE CELL 'sum', in the pinned program and in every row, IS THE sha256 OF THE DUMP (.gsa) THAT YtnpeklimpdljbaaProg.lean LOADS. Nothing in Lean hashes anything: it is a label: what it is worth is what the hold of that sum in a sandbox is worth. -/
noncomputable def Try.pinned : Pinned := { name := "ytnpeklimpdljbaa", sum := "75a448c8bf0e5a53913ebaf8c30717fc3256f46c664b3fa51e69ffe6e9000227", checked := Try.checked }
namespace Rows
def none {H : Type} : Left H := { results := [], args := [] }

/-- 'polyptychlaw18.EpocOrder': WHATEVER THE INPUT: true; the input reads as it did. -/
def epocOrderSpec : ChangeSpec := { name := "epocOrder", fn := fun _ => fun
  | [d] => { results := [.lit (.bool true)], args := [d] }
  | _ => none }
def epocOrderRow : OpenClaim := { program := "ytnpeklimpdljbaa", sum := "75a448c8bf0e5a53913ebaf8c30717fc3256f46c664b3fa51e69ffe6e9000227", func := "polyptych/polyptychlaw18.EpocOrder", spec := "epocOrder", apart := false }
def EpocOrderSaid : Prop := epocOrderRow.holds Try.pinned (OpenSpec.ofChange epocOrderSpec)

/-- ITS FALSE NEIGHBOUR: 'it returns false'. Refute it at one input. -/
def epocOrderWrong : ChangeSpec := { name := "epocOrder", fn := fun _ => fun
  | [d] => { results := [.lit (.bool false)], args := [d] }
  | _ => none }
def EpocOrderWrongFalsely : Prop := epocOrderRow.holds Try.pinned (OpenSpec.ofChange epocOrderWrong)

/-- 'polyptychlaw18.EpocHolds': WHATEVER THE INPUT: true; the input reads as it did. -/
def epocHoldsSpec : ChangeSpec := { name := "epocHolds", fn := fun _ => fun
  | [d1, d2, d3] => { results := [.lit (.bool true)], args := [d1, d2, d3] }
  | _ => none }
def epocHoldsRow : OpenClaim := { program := "ytnpeklimpdljbaa", sum := "75a448c8bf0e5a53913ebaf8c30717fc3256f46c664b3fa51e69ffe6e9000227", func := "polyptych/polyptychlaw18.EpocHolds", spec := "epocHolds", apart := false }
def EpocHoldsSaid : Prop := epocHoldsRow.holds Try.pinned (OpenSpec.ofChange epocHoldsSpec)

/-- ITS FALSE NEIGHBOUR: 'it returns false'. Refute it at one input. -/
def epocHoldsWrong : ChangeSpec := { name := "epocHolds", fn := fun _ => fun
  | [d1, d2, d3] => { results := [.lit (.bool false)], args := [d1, d2, d3] }
  | _ => none }
def EpocHoldsWrongFalsely : Prop := epocHoldsRow.holds Try.pinned (OpenSpec.ofChange epocHoldsWrong)

/-- 'polyptychlaw18.EpocPlays': WHATEVER THE INPUT: true; the input reads as it did. -/
def epocPlaysSpec : ChangeSpec := { name := "epocPlays", fn := fun _ => fun
  | [d1, d2] => { results := [.lit (.bool true)], args := [d1, d2] }
  | _ => none }
def epocPlaysRow : OpenClaim := { program := "ytnpeklimpdljbaa", sum := "75a448c8bf0e5a53913ebaf8c30717fc3256f46c664b3fa51e69ffe6e9000227", func := "polyptych/polyptychlaw18.EpocPlays", spec := "epocPlays", apart := false }
def EpocPlaysSaid : Prop := epocPlaysRow.holds Try.pinned (OpenSpec.ofChange epocPlaysSpec)

/-- ITS FALSE NEIGHBOUR: 'it returns false'. Refute it at one input. -/
def epocPlaysWrong : ChangeSpec := { name := "epocPlays", fn := fun _ => fun
  | [d1, d2] => { results := [.lit (.bool false)], args := [d1, d2] }
  | _ => none }
def EpocPlaysWrongFalsely : Prop := epocPlaysRow.holds Try.pinned (OpenSpec.ofChange epocPlaysWrong)

/-- 'polyptychlaw18.EpocSafe': WHATEVER THE INPUT: true; the input reads as it did. -/
def epocSafeSpec : ChangeSpec := { name := "epocSafe", fn := fun _ => fun
  | [d1, d2] => { results := [.lit (.bool true)], args := [d1, d2] }
  | _ => none }
def epocSafeRow : OpenClaim := { program := "ytnpeklimpdljbaa", sum := "75a448c8bf0e5a53913ebaf8c30717fc3256f46c664b3fa51e69ffe6e9000227", func := "polyptych/polyptychlaw18.EpocSafe", spec := "epocSafe", apart := false }
def EpocSafeSaid : Prop := epocSafeRow.holds Try.pinned (OpenSpec.ofChange epocSafeSpec)

/-- ITS FALSE NEIGHBOUR: 'it returns false'. Refute it at one input. -/
def epocSafeWrong : ChangeSpec := { name := "epocSafe", fn := fun _ => fun
  | [d1, d2] => { results := [.lit (.bool false)], args := [d1, d2] }
  | _ => none }
def EpocSafeWrongFalsely : Prop := epocSafeRow.holds Try.pinned (OpenSpec.ofChange epocSafeWrong)

/- THE SECOND FORM. 'bulk': how many values and letters a reading holds, each counted each time it is reached (what is shared counts as often as it is met; a slice's spare places count too). A statement '..UptoSaid' is the law's where the arguments, and the package variables that the reading takes, are together of bulk at most 1048576: NARROWER than '..Said'. Prove '..Said' where nothing that the law and all that it calls make is longer than what came in: it says more and counts as full. Else prove '..UptoSaid'. A law counts once. -/
mutual
def uptoBulk {H : Type} : DataW H → Nat
  | .lit (.string bytes) => bytes.length + 1
  | .lit _ => 1
  | .nil => 1
  | .ptr d => uptoBulk d + 1
  | .slice elems spare => uptoBulkAll elems + uptoBulkAll spare + 1
  | .agg parts => uptoBulkAll parts + 1
  | .iface _ d => uptoBulk d + 1
  | .map entries => uptoBulkEntries entries + 1
  | .held _ => 1
def uptoBulkAll {H : Type} : List (DataW H) → Nat
  | [] => 0
  | d :: r => uptoBulk d + uptoBulkAll r
def uptoBulkEntries {H : Type} : List (Lit × DataW H) → Nat
  | [] => 0
  | x :: r => uptoBulkEntry x + uptoBulkEntries r
def uptoBulkEntry {H : Type} : Lit × DataW H → Nat
  | (.string bytes, d) => bytes.length + uptoBulk d + 1
  | (_, d) => uptoBulk d + 1
 end
def uptoSmall : (H : Type) → List (DataW H) → Bool := fun _ ds => decide (uptoBulkAll ds ≤ 1048576)
def OpenSpec.upto (s : _root_.Go.ChangeSpec) : _root_.Go.OpenSpec := { _root_.Go.OpenSpec.ofChange s with cond := some uptoSmall }

/-- 'polyptychlaw18.EpocOrder', WHERE WHAT IT READS IS OF BULK AT MOST 1048576: true; the input reads as it did. -/
def epocOrderUptoRow : OpenClaim := { program := "ytnpeklimpdljbaa", sum := "75a448c8bf0e5a53913ebaf8c30717fc3256f46c664b3fa51e69ffe6e9000227", func := "polyptych/polyptychlaw18.EpocOrder", spec := "epocOrder", apart := false, narrowed := true }
def EpocOrderUptoSaid : Prop := epocOrderUptoRow.holds Try.pinned (OpenSpec.upto epocOrderSpec)

/-- 'polyptychlaw18.EpocHolds', WHERE WHAT IT READS IS OF BULK AT MOST 1048576: true; the input reads as it did. -/
def epocHoldsUptoRow : OpenClaim := { program := "ytnpeklimpdljbaa", sum := "75a448c8bf0e5a53913ebaf8c30717fc3256f46c664b3fa51e69ffe6e9000227", func := "polyptych/polyptychlaw18.EpocHolds", spec := "epocHolds", apart := false, narrowed := true }
def EpocHoldsUptoSaid : Prop := epocHoldsUptoRow.holds Try.pinned (OpenSpec.upto epocHoldsSpec)

/-- 'polyptychlaw18.EpocPlays', WHERE WHAT IT READS IS OF BULK AT MOST 1048576: true; the input reads as it did. -/
def epocPlaysUptoRow : OpenClaim := { program := "ytnpeklimpdljbaa", sum := "75a448c8bf0e5a53913ebaf8c30717fc3256f46c664b3fa51e69ffe6e9000227", func := "polyptych/polyptychlaw18.EpocPlays", spec := "epocPlays", apart := false, narrowed := true }
def EpocPlaysUptoSaid : Prop := epocPlaysUptoRow.holds Try.pinned (OpenSpec.upto epocPlaysSpec)

/-- 'polyptychlaw18.EpocSafe', WHERE WHAT IT READS IS OF BULK AT MOST 1048576: true; the input reads as it did. -/
def epocSafeUptoRow : OpenClaim := { program := "ytnpeklimpdljbaa", sum := "75a448c8bf0e5a53913ebaf8c30717fc3256f46c664b3fa51e69ffe6e9000227", func := "polyptych/polyptychlaw18.EpocSafe", spec := "epocSafe", apart := false, narrowed := true }
def EpocSafeUptoSaid : Prop := epocSafeUptoRow.holds Try.pinned (OpenSpec.upto epocSafeSpec)

end Rows
end Go.Proofs.Ytnpeklimpdljbaa
