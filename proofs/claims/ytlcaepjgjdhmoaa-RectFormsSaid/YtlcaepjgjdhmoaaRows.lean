/-
  No cell of these rows narrows 'for every input' (looked for: loops, veiled, ifaces, maps, wideKeys, modest, calm, conditions, laid).
  DERIVED. THE GIVEN ROWS OF THIS SEAT. 4 by the template 'for every input the law returns true; each argument reads behind the call as it read before'; 0 by the template 'total and deterministic' (their statements: YtlcaepjgjdhmoaaTotals.lean).
  GIVEN WITH THE SEED: the statements are not yours to turn. If you find one false, say at which input.
  Laid BY PROGRAM, IN A SANDBOX (cutbox-rows.mjs): the forced cells as the released guide's own fill.sh prints them over the translation a3441d17f9e4c2bf… (all of the seat's roots in one cut). By AI agents, Wed Nov 11 2026. No macro, syntax, notation, axiom, sorry.
-/
import Derived.Test.YtlcaepjgjdhmoaaChecked
import GoSem.Claim
import GoSem.ClaimJoined
import GoSem.ClaimMapViews
import Derived.JoinedTies
import Derived.KernelRfl
namespace Go.Proofs.Ytlcaepjgjdhmoaa
/- THE CELL 'sum', in the pinned program and in every row, IS THE sha256 OF THE DUMP (.gsa) THAT YtlcaepjgjdhmoaaProg.lean LOADS. Nothing in Lean hashes anything: it is a label: what it is worth is what the hold of that sum in a sandbox is worth. -/
noncomputable def Try.pinned : Pinned := { name := "ytlcaepjgjdhmoaa", sum := "a3441d17f9e4c2bf8d5b4e606b9e0a3d6b6ebe2f4c3c90677275a3ed61c37b05", checked := Try.checked }
namespace Rows
def none {H : Type} : Left H := { results := [], args := [] }

/-- 'polyptychlaw9.RectForms': WHATEVER THE INPUT: true; the input reads as it did. -/
def rectFormsSpec : ChangeSpec := { name := "rectForms", fn := fun _ => fun
  | [d] => { results := [.lit (.bool true)], args := [d] }
  | _ => none }
def rectFormsRow : OpenClaim := { program := "ytlcaepjgjdhmoaa", sum := "a3441d17f9e4c2bf8d5b4e606b9e0a3d6b6ebe2f4c3c90677275a3ed61c37b05", func := "polyptych/polyptychlaw9.RectForms", spec := "rectForms", apart := false }
def RectFormsSaid : Prop := rectFormsRow.holds Try.pinned (OpenSpec.ofChange rectFormsSpec)

/-- ITS FALSE NEIGHBOUR: 'it returns false'. Refute it at one input. -/
def rectFormsWrong : ChangeSpec := { name := "rectForms", fn := fun _ => fun
  | [d] => { results := [.lit (.bool false)], args := [d] }
  | _ => none }
def RectFormsWrongFalsely : Prop := rectFormsRow.holds Try.pinned (OpenSpec.ofChange rectFormsWrong)

/-- 'polyptychlaw9.RectOut': WHATEVER THE INPUT: true; the input reads as it did. -/
def rectOutSpec : ChangeSpec := { name := "rectOut", fn := fun _ => fun
  | [d1, d2] => { results := [.lit (.bool true)], args := [d1, d2] }
  | _ => none }
def rectOutRow : OpenClaim := { program := "ytlcaepjgjdhmoaa", sum := "a3441d17f9e4c2bf8d5b4e606b9e0a3d6b6ebe2f4c3c90677275a3ed61c37b05", func := "polyptych/polyptychlaw9.RectOut", spec := "rectOut", apart := false }
def RectOutSaid : Prop := rectOutRow.holds Try.pinned (OpenSpec.ofChange rectOutSpec)

/-- ITS FALSE NEIGHBOUR: 'it returns false'. Refute it at one input. -/
def rectOutWrong : ChangeSpec := { name := "rectOut", fn := fun _ => fun
  | [d1, d2] => { results := [.lit (.bool false)], args := [d1, d2] }
  | _ => none }
def RectOutWrongFalsely : Prop := rectOutRow.holds Try.pinned (OpenSpec.ofChange rectOutWrong)

/-- 'polyptychlaw9.RectTells': WHATEVER THE INPUT: true; the input reads as it did. -/
def rectTellsSpec : ChangeSpec := { name := "rectTells", fn := fun _ => fun
  | [d1, d2, d3, d4, d5] => { results := [.lit (.bool true)], args := [d1, d2, d3, d4, d5] }
  | _ => none }
def rectTellsRow : OpenClaim := { program := "ytlcaepjgjdhmoaa", sum := "a3441d17f9e4c2bf8d5b4e606b9e0a3d6b6ebe2f4c3c90677275a3ed61c37b05", func := "polyptych/polyptychlaw9.RectTells", spec := "rectTells", apart := false }
def RectTellsSaid : Prop := rectTellsRow.holds Try.pinned (OpenSpec.ofChange rectTellsSpec)

/-- ITS FALSE NEIGHBOUR: 'it returns false'. Refute it at one input. -/
def rectTellsWrong : ChangeSpec := { name := "rectTells", fn := fun _ => fun
  | [d1, d2, d3, d4, d5] => { results := [.lit (.bool false)], args := [d1, d2, d3, d4, d5] }
  | _ => none }
def RectTellsWrongFalsely : Prop := rectTellsRow.holds Try.pinned (OpenSpec.ofChange rectTellsWrong)

/-- 'polyptychlaw9.RectWhole': WHATEVER THE INPUT: true; the input reads as it did. -/
def rectWholeSpec : ChangeSpec := { name := "rectWhole", fn := fun _ => fun
  | [d1, d2, d3, d4, d5] => { results := [.lit (.bool true)], args := [d1, d2, d3, d4, d5] }
  | _ => none }
def rectWholeRow : OpenClaim := { program := "ytlcaepjgjdhmoaa", sum := "a3441d17f9e4c2bf8d5b4e606b9e0a3d6b6ebe2f4c3c90677275a3ed61c37b05", func := "polyptych/polyptychlaw9.RectWhole", spec := "rectWhole", apart := false }
def RectWholeSaid : Prop := rectWholeRow.holds Try.pinned (OpenSpec.ofChange rectWholeSpec)

/-- ITS FALSE NEIGHBOUR: 'it returns false'. Refute it at one input. -/
def rectWholeWrong : ChangeSpec := { name := "rectWhole", fn := fun _ => fun
  | [d1, d2, d3, d4, d5] => { results := [.lit (.bool false)], args := [d1, d2, d3, d4, d5] }
  | _ => none }
def RectWholeWrongFalsely : Prop := rectWholeRow.holds Try.pinned (OpenSpec.ofChange rectWholeWrong)

/- THE SECOND FORM. 'bulk': how many values and letters a reading holds, each counted each time it is reached (what is shared counts as often as it is met; a slice's spare places count too). A statement '..UptoSaid' is the law's where the arguments, and the package variables that the reading takes, are together of bulk at most 1048576: NARROWER than '..Said'. Prove '..Said' where nothing that the law and all that it calls make is longer than what came in: it says more and counts as full. Else prove '..UptoSaid'. A law counts once. -/
mutual
def uptoBulk {H : Type} : DataW H → Nat
  | .lit (.string bytes) => bytes.length + 1
  | .lit _ => 1
  | .nil => 1
  | .ptr d => uptoBulk d + 1
  | .slice elems spare => uptoBulkAll elems + uptoBulkAll spare + 1
  | .agg parts => uptoBulkAll parts + 1
  | .iface _ d => uptoBulk d + 1
  | .map entries => uptoBulkEntries entries + 1
  | .held _ => 1
def uptoBulkAll {H : Type} : List (DataW H) → Nat
  | [] => 0
  | d :: r => uptoBulk d + uptoBulkAll r
def uptoBulkEntries {H : Type} : List (Lit × DataW H) → Nat
  | [] => 0
  | x :: r => uptoBulkEntry x + uptoBulkEntries r
def uptoBulkEntry {H : Type} : Lit × DataW H → Nat
  | (.string bytes, d) => bytes.length + uptoBulk d + 1
  | (_, d) => uptoBulk d + 1
 end
def uptoSmall : (H : Type) → List (DataW H) → Bool := fun _ ds => decide (uptoBulkAll ds ≤ 1048576)
def OpenSpec.upto (s : _root_.Go.ChangeSpec) : _root_.Go.OpenSpec := { _root_.Go.OpenSpec.ofChange s with cond := some uptoSmall }

/-- 'polyptychlaw9.RectForms', WHERE WHAT IT READS IS OF BULK AT MOST 1048576: true; the input reads as it did. -/
def rectFormsUptoRow : OpenClaim := { program := "ytlcaepjgjdhmoaa", sum := "a3441d17f9e4c2bf8d5b4e606b9e0a3d6b6ebe2f4c3c90677275a3ed61c37b05", func := "polyptych/polyptychlaw9.RectForms", spec := "rectForms", apart := false, narrowed := true }
def RectFormsUptoSaid : Prop := rectFormsUptoRow.holds Try.pinned (OpenSpec.upto rectFormsSpec)

/-- 'polyptychlaw9.RectOut', WHERE WHAT IT READS IS OF BULK AT MOST 1048576: true; the input reads as it did. -/
def rectOutUptoRow : OpenClaim := { program := "ytlcaepjgjdhmoaa", sum := "a3441d17f9e4c2bf8d5b4e606b9e0a3d6b6ebe2f4c3c90677275a3ed61c37b05", func := "polyptych/polyptychlaw9.RectOut", spec := "rectOut", apart := false, narrowed := true }
def RectOutUptoSaid : Prop := rectOutUptoRow.holds Try.pinned (OpenSpec.upto rectOutSpec)

/-- 'polyptychlaw9.RectTells', WHERE WHAT IT READS IS OF BULK AT MOST 1048576: true; the input reads as it did. -/
def rectTellsUptoRow : OpenClaim := { program := "ytlcaepjgjdhmoaa", sum := "a3441d17f9e4c2bf8d5b4e606b9e0a3d6b6ebe2f4c3c90677275a3ed61c37b05", func := "polyptych/polyptychlaw9.RectTells", spec := "rectTells", apart := false, narrowed := true }
def RectTellsUptoSaid : Prop := rectTellsUptoRow.holds Try.pinned (OpenSpec.upto rectTellsSpec)

/-- 'polyptychlaw9.RectWhole', WHERE WHAT IT READS IS OF BULK AT MOST 1048576: true; the input reads as it did. -/
def rectWholeUptoRow : OpenClaim := { program := "ytlcaepjgjdhmoaa", sum := "a3441d17f9e4c2bf8d5b4e606b9e0a3d6b6ebe2f4c3c90677275a3ed61c37b05", func := "polyptych/polyptychlaw9.RectWhole", spec := "rectWhole", apart := false, narrowed := true }
def RectWholeUptoSaid : Prop := rectWholeUptoRow.holds Try.pinned (OpenSpec.upto rectWholeSpec)

end Rows
end Go.Proofs.Ytlcaepjgjdhmoaa
