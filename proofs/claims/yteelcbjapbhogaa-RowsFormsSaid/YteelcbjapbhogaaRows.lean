/-
  No cell of these rows narrows 'for every input' (looked for: loops, veiled, ifaces, maps, wideKeys, modest, calm, conditions, laid).
  DERIVED. THE GIVEN ROWS OF THIS SEAT. 3 by the template 'for every input the law returns true; each argument reads behind the call as it read before'; 0 by the template 'total and deterministic' (their statements: YteelcbjapbhogaaTotals.lean).
  GIVEN WITH THE SEED: the statements are not yours to turn. If you find one false, say at which input.
  Laid BY PROGRAM, IN A SANDBOX (cutbox-rows.mjs): the forced cells as the released guide's own fill.sh prints them over the translation f6adff1f8024c4ea… (all of the seat's roots in one cut). By AI agents, Wed Nov 11 2026. No macro, syntax, notation, axiom, sorry.
-/
import Derived.Test.YteelcbjapbhogaaChecked
import GoSem.Claim
import GoSem.ClaimJoined
import GoSem.ClaimMapViews
import Derived.JoinedTies
import Derived.KernelRfl
namespace Go.Proofs.Yteelcbjapbhogaa
/- THE CELL 'sum', in the pinned program and in every row, IS THE sha256 OF THE DUMP (.gsa) THAT YteelcbjapbhogaaProg.lean LOADS. Nothing in Lean hashes anything: it is a label: what it is worth is what the hold of that sum in a sandbox is worth. -/
noncomputable def Try.pinned : Pinned := { name := "yteelcbjapbhogaa", sum := "f6adff1f8024c4eaaaf3c2cbd661b6c7b67d70ba778da55884c5349ccb6f34a3", checked := Try.checked }
namespace Rows
def none {H : Type} : Left H := { results := [], args := [] }

/-- 'polyptychlaw4.RowsForms': WHATEVER THE INPUT: true; the input reads as it did. -/
def rowsFormsSpec : ChangeSpec := { name := "rowsForms", fn := fun _ => fun
  | [d] => { results := [.lit (.bool true)], args := [d] }
  | _ => none }
def rowsFormsRow : OpenClaim := { program := "yteelcbjapbhogaa", sum := "f6adff1f8024c4eaaaf3c2cbd661b6c7b67d70ba778da55884c5349ccb6f34a3", func := "polyptych/polyptychlaw4.RowsForms", spec := "rowsForms", apart := false }
def RowsFormsSaid : Prop := rowsFormsRow.holds Try.pinned (OpenSpec.ofChange rowsFormsSpec)

/-- ITS FALSE NEIGHBOUR: 'it returns false'. Refute it at one input. -/
def rowsFormsWrong : ChangeSpec := { name := "rowsForms", fn := fun _ => fun
  | [d] => { results := [.lit (.bool false)], args := [d] }
  | _ => none }
def RowsFormsWrongFalsely : Prop := rowsFormsRow.holds Try.pinned (OpenSpec.ofChange rowsFormsWrong)

/-- 'polyptychlaw4.RowsOwn': WHATEVER THE INPUT: true; the input reads as it did. -/
def rowsOwnSpec : ChangeSpec := { name := "rowsOwn", fn := fun _ => fun
  | [d1, d2, d3] => { results := [.lit (.bool true)], args := [d1, d2, d3] }
  | _ => none }
def rowsOwnRow : OpenClaim := { program := "yteelcbjapbhogaa", sum := "f6adff1f8024c4eaaaf3c2cbd661b6c7b67d70ba778da55884c5349ccb6f34a3", func := "polyptych/polyptychlaw4.RowsOwn", spec := "rowsOwn", apart := false }
def RowsOwnSaid : Prop := rowsOwnRow.holds Try.pinned (OpenSpec.ofChange rowsOwnSpec)

/-- ITS FALSE NEIGHBOUR: 'it returns false'. Refute it at one input. -/
def rowsOwnWrong : ChangeSpec := { name := "rowsOwn", fn := fun _ => fun
  | [d1, d2, d3] => { results := [.lit (.bool false)], args := [d1, d2, d3] }
  | _ => none }
def RowsOwnWrongFalsely : Prop := rowsOwnRow.holds Try.pinned (OpenSpec.ofChange rowsOwnWrong)

/-- 'polyptychlaw4.RowsLong': WHATEVER THE INPUT: true; the input reads as it did. -/
def rowsLongSpec : ChangeSpec := { name := "rowsLong", fn := fun _ => fun
  | [d1, d2, d3] => { results := [.lit (.bool true)], args := [d1, d2, d3] }
  | _ => none }
def rowsLongRow : OpenClaim := { program := "yteelcbjapbhogaa", sum := "f6adff1f8024c4eaaaf3c2cbd661b6c7b67d70ba778da55884c5349ccb6f34a3", func := "polyptych/polyptychlaw4.RowsLong", spec := "rowsLong", apart := false }
def RowsLongSaid : Prop := rowsLongRow.holds Try.pinned (OpenSpec.ofChange rowsLongSpec)

/-- ITS FALSE NEIGHBOUR: 'it returns false'. Refute it at one input. -/
def rowsLongWrong : ChangeSpec := { name := "rowsLong", fn := fun _ => fun
  | [d1, d2, d3] => { results := [.lit (.bool false)], args := [d1, d2, d3] }
  | _ => none }
def RowsLongWrongFalsely : Prop := rowsLongRow.holds Try.pinned (OpenSpec.ofChange rowsLongWrong)

/- THE SECOND FORM. 'bulk': how many values and letters a reading holds, each counted each time it is reached (what is shared counts as often as it is met; a slice's spare places count too). A statement '..UptoSaid' is the law's where the arguments, and the package variables that the reading takes, are together of bulk at most 1048576: NARROWER than '..Said'. Prove '..Said' where nothing that the law and all that it calls make is longer than what came in: it says more and counts as full. Else prove '..UptoSaid'. A law counts once. -/
mutual
def uptoBulk {H : Type} : DataW H → Nat
  | .lit (.string bytes) => bytes.length + 1
  | .lit _ => 1
  | .nil => 1
  | .ptr d => uptoBulk d + 1
  | .slice elems spare => uptoBulkAll elems + uptoBulkAll spare + 1
  | .agg parts => uptoBulkAll parts + 1
  | .iface _ d => uptoBulk d + 1
  | .map entries => uptoBulkEntries entries + 1
  | .held _ => 1
def uptoBulkAll {H : Type} : List (DataW H) → Nat
  | [] => 0
  | d :: r => uptoBulk d + uptoBulkAll r
def uptoBulkEntries {H : Type} : List (Lit × DataW H) → Nat
  | [] => 0
  | x :: r => uptoBulkEntry x + uptoBulkEntries r
def uptoBulkEntry {H : Type} : Lit × DataW H → Nat
  | (.string bytes, d) => bytes.length + uptoBulk d + 1
  | (_, d) => uptoBulk d + 1
 end
def uptoSmall : (H : Type) → List (DataW H) → Bool := fun _ ds => decide (uptoBulkAll ds ≤ 1048576)
def OpenSpec.upto (s : _root_.Go.ChangeSpec) : _root_.Go.OpenSpec := { _root_.Go.OpenSpec.ofChange s with cond := some uptoSmall }

/-- 'polyptychlaw4.RowsForms', WHERE WHAT IT READS IS OF BULK AT MOST 1048576: true; the input reads as it did. -/
def rowsFormsUptoRow : OpenClaim := { program := "yteelcbjapbhogaa", sum := "f6adff1f8024c4eaaaf3c2cbd661b6c7b67d70ba778da55884c5349ccb6f34a3", func := "polyptych/polyptychlaw4.RowsForms", spec := "rowsForms", apart := false, narrowed := true }
def RowsFormsUptoSaid : Prop := rowsFormsUptoRow.holds Try.pinned (OpenSpec.upto rowsFormsSpec)

/-- 'polyptychlaw4.RowsOwn', WHERE WHAT IT READS IS OF BULK AT MOST 1048576: true; the input reads as it did. -/
def rowsOwnUptoRow : OpenClaim := { program := "yteelcbjapbhogaa", sum := "f6adff1f8024c4eaaaf3c2cbd661b6c7b67d70ba778da55884c5349ccb6f34a3", func := "polyptych/polyptychlaw4.RowsOwn", spec := "rowsOwn", apart := false, narrowed := true }
def RowsOwnUptoSaid : Prop := rowsOwnUptoRow.holds Try.pinned (OpenSpec.upto rowsOwnSpec)

/-- 'polyptychlaw4.RowsLong', WHERE WHAT IT READS IS OF BULK AT MOST 1048576: true; the input reads as it did. -/
def rowsLongUptoRow : OpenClaim := { program := "yteelcbjapbhogaa", sum := "f6adff1f8024c4eaaaf3c2cbd661b6c7b67d70ba778da55884c5349ccb6f34a3", func := "polyptych/polyptychlaw4.RowsLong", spec := "rowsLong", apart := false, narrowed := true }
def RowsLongUptoSaid : Prop := rowsLongUptoRow.holds Try.pinned (OpenSpec.upto rowsLongSpec)

end Rows
end Go.Proofs.Yteelcbjapbhogaa
