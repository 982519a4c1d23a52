/-
  No cell of these rows narrows 'for every input' (looked for: loops, veiled, ifaces, maps, wideKeys, modest, calm, conditions, laid).
  DERIVED. THE GIVEN ROWS OF THIS SEAT. 4 by the template 'for every input the law returns true; each argument reads behind the call as it read before'; 0 by the template 'total and deterministic' (their statements: YtlkejpdclnbcoaaTotals.lean).
  GIVEN WITH THE SEED: the statements are not yours to turn. If you find one false, say at which input.
  Laid BY PROGRAM, IN A SANDBOX (cutbox-rows.mjs): the forced cells as the released guide's own fill.sh prints them over the translation 9a8e555b0395410f… (all of the seat's roots in one cut). By AI agents, Wed Nov 11 2026. No macro, syntax, notation, axiom, sorry.
-/
import Derived.Test.YtlkejpdclnbcoaaChecked
import GoSem.Claim
import GoSem.ClaimJoined
import GoSem.ClaimMapViews
import Derived.JoinedTies
import Derived.KernelRfl
namespace Go.Proofs.Ytlkejpdclnbcoaa
/- THE CELL 'sum', in the pinned program and in every row, IS THE sha256 OF THE DUMP (.gsa) THAT YtlkejpdclnbcoaaProg.lean LOADS. Nothing in Lean hashes anything: it is a label: what it is worth is what the hold of that sum in a sandbox is worth. -/
noncomputable def Try.pinned : Pinned := { name := "ytlkejpdclnbcoaa", sum := "9a8e555b0395410fad241b22535876e68910c603290796d8c5da07fd6543b7e3", checked := Try.checked }
namespace Rows
def none {H : Type} : Left H := { results := [], args := [] }

/-- 'polyptychlaw19.PoolOwn': WHATEVER THE INPUT: true; the input reads as it did. -/
def poolOwnSpec : ChangeSpec := { name := "poolOwn", fn := fun _ => fun
  | [d1, d2] => { results := [.lit (.bool true)], args := [d1, d2] }
  | _ => none }
def poolOwnRow : OpenClaim := { program := "ytlkejpdclnbcoaa", sum := "9a8e555b0395410fad241b22535876e68910c603290796d8c5da07fd6543b7e3", func := "polyptych/polyptychlaw19.PoolOwn", spec := "poolOwn", recurses := true, apart := false }
def PoolOwnSaid : Prop := poolOwnRow.holds Try.pinned (OpenSpec.ofChange poolOwnSpec)

/-- ITS FALSE NEIGHBOUR: 'it returns false'. Refute it at one input. -/
def poolOwnWrong : ChangeSpec := { name := "poolOwn", fn := fun _ => fun
  | [d1, d2] => { results := [.lit (.bool false)], args := [d1, d2] }
  | _ => none }
def PoolOwnWrongFalsely : Prop := poolOwnRow.holds Try.pinned (OpenSpec.ofChange poolOwnWrong)

/-- 'polyptychlaw19.PoolGens': WHATEVER THE INPUT: true; the input reads as it did. -/
def poolGensSpec : ChangeSpec := { name := "poolGens", fn := fun _ => fun
  | [d] => { results := [.lit (.bool true)], args := [d] }
  | _ => none }
def poolGensRow : OpenClaim := { program := "ytlkejpdclnbcoaa", sum := "9a8e555b0395410fad241b22535876e68910c603290796d8c5da07fd6543b7e3", func := "polyptych/polyptychlaw19.PoolGens", spec := "poolGens", apart := false }
def PoolGensSaid : Prop := poolGensRow.holds Try.pinned (OpenSpec.ofChange poolGensSpec)

/-- ITS FALSE NEIGHBOUR: 'it returns false'. Refute it at one input. -/
def poolGensWrong : ChangeSpec := { name := "poolGens", fn := fun _ => fun
  | [d] => { results := [.lit (.bool false)], args := [d] }
  | _ => none }
def PoolGensWrongFalsely : Prop := poolGensRow.holds Try.pinned (OpenSpec.ofChange poolGensWrong)

/-- 'polyptychlaw19.PoolLeast': WHATEVER THE INPUT: true; the input reads as it did. -/
def poolLeastSpec : ChangeSpec := { name := "poolLeast", fn := fun _ => fun
  | [d1, d2] => { results := [.lit (.bool true)], args := [d1, d2] }
  | _ => none }
def poolLeastRow : OpenClaim := { program := "ytlkejpdclnbcoaa", sum := "9a8e555b0395410fad241b22535876e68910c603290796d8c5da07fd6543b7e3", func := "polyptych/polyptychlaw19.PoolLeast", spec := "poolLeast", apart := false }
def PoolLeastSaid : Prop := poolLeastRow.holds Try.pinned (OpenSpec.ofChange poolLeastSpec)

/-- ITS FALSE NEIGHBOUR: 'it returns false'. Refute it at one input. -/
def poolLeastWrong : ChangeSpec := { name := "poolLeast", fn := fun _ => fun
  | [d1, d2] => { results := [.lit (.bool false)], args := [d1, d2] }
  | _ => none }
def PoolLeastWrongFalsely : Prop := poolLeastRow.holds Try.pinned (OpenSpec.ofChange poolLeastWrong)

/-- 'polyptychlaw19.PoolPlays': WHATEVER THE INPUT: true; the input reads as it did. -/
def poolPlaysSpec : ChangeSpec := { name := "poolPlays", fn := fun _ => fun
  | [d1, d2] => { results := [.lit (.bool true)], args := [d1, d2] }
  | _ => none }
def poolPlaysRow : OpenClaim := { program := "ytlkejpdclnbcoaa", sum := "9a8e555b0395410fad241b22535876e68910c603290796d8c5da07fd6543b7e3", func := "polyptych/polyptychlaw19.PoolPlays", spec := "poolPlays", apart := false }
def PoolPlaysSaid : Prop := poolPlaysRow.holds Try.pinned (OpenSpec.ofChange poolPlaysSpec)

/-- ITS FALSE NEIGHBOUR: 'it returns false'. Refute it at one input. -/
def poolPlaysWrong : ChangeSpec := { name := "poolPlays", fn := fun _ => fun
  | [d1, d2] => { results := [.lit (.bool false)], args := [d1, d2] }
  | _ => none }
def PoolPlaysWrongFalsely : Prop := poolPlaysRow.holds Try.pinned (OpenSpec.ofChange poolPlaysWrong)

/- THE SECOND FORM. 'bulk': how many values and letters a reading holds, each counted each time it is reached (what is shared counts as often as it is met; a slice's spare places count too). A statement '..UptoSaid' is the law's where the arguments, and the package variables that the reading takes, are together of bulk at most 1048576: NARROWER than '..Said'. Prove '..Said' where nothing that the law and all that it calls make is longer than what came in: it says more and counts as full. Else prove '..UptoSaid'. A law counts once. -/
mutual
def uptoBulk {H : Type} : DataW H → Nat
  | .lit (.string bytes) => bytes.length + 1
  | .lit _ => 1
  | .nil => 1
  | .ptr d => uptoBulk d + 1
  | .slice elems spare => uptoBulkAll elems + uptoBulkAll spare + 1
  | .agg parts => uptoBulkAll parts + 1
  | .iface _ d => uptoBulk d + 1
  | .map entries => uptoBulkEntries entries + 1
  | .held _ => 1
def uptoBulkAll {H : Type} : List (DataW H) → Nat
  | [] => 0
  | d :: r => uptoBulk d + uptoBulkAll r
def uptoBulkEntries {H : Type} : List (Lit × DataW H) → Nat
  | [] => 0
  | x :: r => uptoBulkEntry x + uptoBulkEntries r
def uptoBulkEntry {H : Type} : Lit × DataW H → Nat
  | (.string bytes, d) => bytes.length + uptoBulk d + 1
  | (_, d) => uptoBulk d + 1
 end
def uptoSmall : (H : Type) → List (DataW H) → Bool := fun _ ds => decide (uptoBulkAll ds ≤ 1048576)
def OpenSpec.upto (s : _root_.Go.ChangeSpec) : _root_.Go.OpenSpec := { _root_.Go.OpenSpec.ofChange s with cond := some uptoSmall }

/-- 'polyptychlaw19.PoolOwn', WHERE WHAT IT READS IS OF BULK AT MOST 1048576: true; the input reads as it did. -/
def poolOwnUptoRow : OpenClaim := { program := "ytlkejpdclnbcoaa", sum := "9a8e555b0395410fad241b22535876e68910c603290796d8c5da07fd6543b7e3", func := "polyptych/polyptychlaw19.PoolOwn", spec := "poolOwn", recurses := true, apart := false, narrowed := true }
def PoolOwnUptoSaid : Prop := poolOwnUptoRow.holds Try.pinned (OpenSpec.upto poolOwnSpec)

/-- 'polyptychlaw19.PoolGens', WHERE WHAT IT READS IS OF BULK AT MOST 1048576: true; the input reads as it did. -/
def poolGensUptoRow : OpenClaim := { program := "ytlkejpdclnbcoaa", sum := "9a8e555b0395410fad241b22535876e68910c603290796d8c5da07fd6543b7e3", func := "polyptych/polyptychlaw19.PoolGens", spec := "poolGens", apart := false, narrowed := true }
def PoolGensUptoSaid : Prop := poolGensUptoRow.holds Try.pinned (OpenSpec.upto poolGensSpec)

/-- 'polyptychlaw19.PoolLeast', WHERE WHAT IT READS IS OF BULK AT MOST 1048576: true; the input reads as it did. -/
def poolLeastUptoRow : OpenClaim := { program := "ytlkejpdclnbcoaa", sum := "9a8e555b0395410fad241b22535876e68910c603290796d8c5da07fd6543b7e3", func := "polyptych/polyptychlaw19.PoolLeast", spec := "poolLeast", apart := false, narrowed := true }
def PoolLeastUptoSaid : Prop := poolLeastUptoRow.holds Try.pinned (OpenSpec.upto poolLeastSpec)

/-- 'polyptychlaw19.PoolPlays', WHERE WHAT IT READS IS OF BULK AT MOST 1048576: true; the input reads as it did. -/
def poolPlaysUptoRow : OpenClaim := { program := "ytlkejpdclnbcoaa", sum := "9a8e555b0395410fad241b22535876e68910c603290796d8c5da07fd6543b7e3", func := "polyptych/polyptychlaw19.PoolPlays", spec := "poolPlays", apart := false, narrowed := true }
def PoolPlaysUptoSaid : Prop := poolPlaysUptoRow.holds Try.pinned (OpenSpec.upto poolPlaysSpec)

end Rows
end Go.Proofs.Ytlkejpdclnbcoaa
