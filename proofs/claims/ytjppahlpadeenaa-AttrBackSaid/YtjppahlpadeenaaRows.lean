/-
  No cell of these rows narrows 'for every input' (looked for: loops, veiled, ifaces, maps, wideKeys, modest, calm, conditions, laid).
  DERIVED. THE GIVEN ROWS OF THIS SEAT. 4 by the template 'for every input the law returns true; each argument reads behind the call as it read before'; 0 by the template 'total and deterministic' (their statements: YtjppahlpadeenaaTotals.lean).
  GIVEN WITH THE SEED: the statements are not yours to turn. If you find one false, say at which input.
  Laid BY PROGRAM, IN A SANDBOX (cutbox-rows.mjs): the forced cells as the released guide's own fill.sh prints them over the translation 5bf47b48124b8aaf… (all of the seat's roots in one cut). By AI agents, Wed Nov 11 2026. No macro, syntax, notation, axiom, sorry.
-/
import Derived.Test.YtjppahlpadeenaaChecked
import GoSem.Claim
import GoSem.ClaimJoined
import GoSem.ClaimMapViews
import Derived.JoinedTies
import Derived.KernelRfl
namespace Go.Proofs.Ytjppahlpadeenaa
/- THE CELL 'sum', in the pinned program and in every row, IS THE sha256 OF THE DUMP (.gsa) THAT YtjppahlpadeenaaProg.lean LOADS. Nothing in Lean hashes anything: it is a label: what it is worth is what the hold of that sum in a sandbox is worth. -/
noncomputable def Try.pinned : Pinned := { name := "ytjppahlpadeenaa", sum := "5bf47b48124b8aafc3b8f56bebc48312a6554ef1daead7bad089231b12221f6f", checked := Try.checked }
namespace Rows
def none {H : Type} : Left H := { results := [], args := [] }

/-- 'polyptychlaw3.AttrForms': WHATEVER THE INPUT: true; the input reads as it did. -/
def attrFormsSpec : ChangeSpec := { name := "attrForms", fn := fun _ => fun
  | [d] => { results := [.lit (.bool true)], args := [d] }
  | _ => none }
def attrFormsRow : OpenClaim := { program := "ytjppahlpadeenaa", sum := "5bf47b48124b8aafc3b8f56bebc48312a6554ef1daead7bad089231b12221f6f", func := "polyptych/polyptychlaw3.AttrForms", spec := "attrForms", apart := false }
def AttrFormsSaid : Prop := attrFormsRow.holds Try.pinned (OpenSpec.ofChange attrFormsSpec)

/-- ITS FALSE NEIGHBOUR: 'it returns false'. Refute it at one input. -/
def attrFormsWrong : ChangeSpec := { name := "attrForms", fn := fun _ => fun
  | [d] => { results := [.lit (.bool false)], args := [d] }
  | _ => none }
def AttrFormsWrongFalsely : Prop := attrFormsRow.holds Try.pinned (OpenSpec.ofChange attrFormsWrong)

/-- 'polyptychlaw3.AttrOrder': WHATEVER THE INPUT: true; the input reads as it did. -/
def attrOrderSpec : ChangeSpec := { name := "attrOrder", fn := fun _ => fun
  | [d1, d2, d3] => { results := [.lit (.bool true)], args := [d1, d2, d3] }
  | _ => none }
def attrOrderRow : OpenClaim := { program := "ytjppahlpadeenaa", sum := "5bf47b48124b8aafc3b8f56bebc48312a6554ef1daead7bad089231b12221f6f", func := "polyptych/polyptychlaw3.AttrOrder", spec := "attrOrder", apart := false }
def AttrOrderSaid : Prop := attrOrderRow.holds Try.pinned (OpenSpec.ofChange attrOrderSpec)

/-- ITS FALSE NEIGHBOUR: 'it returns false'. Refute it at one input. -/
def attrOrderWrong : ChangeSpec := { name := "attrOrder", fn := fun _ => fun
  | [d1, d2, d3] => { results := [.lit (.bool false)], args := [d1, d2, d3] }
  | _ => none }
def AttrOrderWrongFalsely : Prop := attrOrderRow.holds Try.pinned (OpenSpec.ofChange attrOrderWrong)

/-- 'polyptychlaw3.AttrCounts': WHATEVER THE INPUT: true; the input reads as it did. -/
def attrCountsSpec : ChangeSpec := { name := "attrCounts", fn := fun _ => fun
  | [d1, d2] => { results := [.lit (.bool true)], args := [d1, d2] }
  | _ => none }
def attrCountsRow : OpenClaim := { program := "ytjppahlpadeenaa", sum := "5bf47b48124b8aafc3b8f56bebc48312a6554ef1daead7bad089231b12221f6f", func := "polyptych/polyptychlaw3.AttrCounts", spec := "attrCounts", apart := false }
def AttrCountsSaid : Prop := attrCountsRow.holds Try.pinned (OpenSpec.ofChange attrCountsSpec)

/-- ITS FALSE NEIGHBOUR: 'it returns false'. Refute it at one input. -/
def attrCountsWrong : ChangeSpec := { name := "attrCounts", fn := fun _ => fun
  | [d1, d2] => { results := [.lit (.bool false)], args := [d1, d2] }
  | _ => none }
def AttrCountsWrongFalsely : Prop := attrCountsRow.holds Try.pinned (OpenSpec.ofChange attrCountsWrong)

/-- 'polyptychlaw3.AttrBack': WHATEVER THE INPUT: true; the input reads as it did. -/
def attrBackSpec : ChangeSpec := { name := "attrBack", fn := fun _ => fun
  | [d1, d2, d3, d4, d5, d6] => { results := [.lit (.bool true)], args := [d1, d2, d3, d4, d5, d6] }
  | _ => none }
def attrBackRow : OpenClaim := { program := "ytjppahlpadeenaa", sum := "5bf47b48124b8aafc3b8f56bebc48312a6554ef1daead7bad089231b12221f6f", func := "polyptych/polyptychlaw3.AttrBack", spec := "attrBack", apart := false }
def AttrBackSaid : Prop := attrBackRow.holds Try.pinned (OpenSpec.ofChange attrBackSpec)

/-- ITS FALSE NEIGHBOUR: 'it returns false'. Refute it at one input. -/
def attrBackWrong : ChangeSpec := { name := "attrBack", fn := fun _ => fun
  | [d1, d2, d3, d4, d5, d6] => { results := [.lit (.bool false)], args := [d1, d2, d3, d4, d5, d6] }
  | _ => none }
def AttrBackWrongFalsely : Prop := attrBackRow.holds Try.pinned (OpenSpec.ofChange attrBackWrong)

/- THE SECOND FORM. 'bulk': how many values and letters a reading holds, each counted each time it is reached (what is shared counts as often as it is met; a slice's spare places count too). A statement '..UptoSaid' is the law's where the arguments, and the package variables that the reading takes, are together of bulk at most 1048576: NARROWER than '..Said'. Prove '..Said' where nothing that the law and all that it calls make is longer than what came in: it says more and counts as full. Else prove '..UptoSaid'. A law counts once. -/
mutual
def uptoBulk {H : Type} : DataW H → Nat
  | .lit (.string bytes) => bytes.length + 1
  | .lit _ => 1
  | .nil => 1
  | .ptr d => uptoBulk d + 1
  | .slice elems spare => uptoBulkAll elems + uptoBulkAll spare + 1
  | .agg parts => uptoBulkAll parts + 1
  | .iface _ d => uptoBulk d + 1
  | .map entries => uptoBulkEntries entries + 1
  | .held _ => 1
def uptoBulkAll {H : Type} : List (DataW H) → Nat
  | [] => 0
  | d :: r => uptoBulk d + uptoBulkAll r
def uptoBulkEntries {H : Type} : List (Lit × DataW H) → Nat
  | [] => 0
  | x :: r => uptoBulkEntry x + uptoBulkEntries r
def uptoBulkEntry {H : Type} : Lit × DataW H → Nat
  | (.string bytes, d) => bytes.length + uptoBulk d + 1
  | (_, d) => uptoBulk d + 1
 end
def uptoSmall : (H : Type) → List (DataW H) → Bool := fun _ ds => decide (uptoBulkAll ds ≤ 1048576)
def OpenSpec.upto (s : _root_.Go.ChangeSpec) : _root_.Go.OpenSpec := { _root_.Go.OpenSpec.ofChange s with cond := some uptoSmall }

/-- 'polyptychlaw3.AttrForms', WHERE WHAT IT READS IS OF BULK AT MOST 1048576: true; the input reads as it did. -/
def attrFormsUptoRow : OpenClaim := { program := "ytjppahlpadeenaa", sum := "5bf47b48124b8aafc3b8f56bebc48312a6554ef1daead7bad089231b12221f6f", func := "polyptych/polyptychlaw3.AttrForms", spec := "attrForms", apart := false, narrowed := true }
def AttrFormsUptoSaid : Prop := attrFormsUptoRow.holds Try.pinned (OpenSpec.upto attrFormsSpec)

/-- 'polyptychlaw3.AttrOrder', WHERE WHAT IT READS IS OF BULK AT MOST 1048576: true; the input reads as it did. -/
def attrOrderUptoRow : OpenClaim := { program := "ytjppahlpadeenaa", sum := "5bf47b48124b8aafc3b8f56bebc48312a6554ef1daead7bad089231b12221f6f", func := "polyptych/polyptychlaw3.AttrOrder", spec := "attrOrder", apart := false, narrowed := true }
def AttrOrderUptoSaid : Prop := attrOrderUptoRow.holds Try.pinned (OpenSpec.upto attrOrderSpec)

/-- 'polyptychlaw3.AttrCounts', WHERE WHAT IT READS IS OF BULK AT MOST 1048576: true; the input reads as it did. -/
def attrCountsUptoRow : OpenClaim := { program := "ytjppahlpadeenaa", sum := "5bf47b48124b8aafc3b8f56bebc48312a6554ef1daead7bad089231b12221f6f", func := "polyptych/polyptychlaw3.AttrCounts", spec := "attrCounts", apart := false, narrowed := true }
def AttrCountsUptoSaid : Prop := attrCountsUptoRow.holds Try.pinned (OpenSpec.upto attrCountsSpec)

/-- 'polyptychlaw3.AttrBack', WHERE WHAT IT READS IS OF BULK AT MOST 1048576: true; the input reads as it did. -/
def attrBackUptoRow : OpenClaim := { program := "ytjppahlpadeenaa", sum := "5bf47b48124b8aafc3b8f56bebc48312a6554ef1daead7bad089231b12221f6f", func := "polyptych/polyptychlaw3.AttrBack", spec := "attrBack", apart := false, narrowed := true }
def AttrBackUptoSaid : Prop := attrBackUptoRow.holds Try.pinned (OpenSpec.upto attrBackSpec)

end Rows
end Go.Proofs.Ytjppahlpadeenaa
