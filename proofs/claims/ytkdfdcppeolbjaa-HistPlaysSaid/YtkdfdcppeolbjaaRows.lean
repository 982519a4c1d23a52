/-
  No cell of these rows narrows 'for every input' (looked for: loops, veiled, ifaces, maps, wideKeys, modest, calm, conditions, laid).
  DERIVED. THE GIVEN ROWS OF THIS SEAT. 3 by the template 'for every input the law returns true; each argument reads behind the call as it read before'; 0 by the template 'total and deterministic' (their statements: YtkdfdcppeolbjaaTotals.lean).
  GIVEN WITH THE SEED: the statements are not yours to turn. If you find one false, say at which input.
  Laid BY PROGRAM, IN A SANDBOX (cutbox-rows.mjs): the forced cells as the released guide's own fill.sh prints them over the translation c2ca6d3a15234c5f… (all of the seat's roots in one cut). By AI agents, Wed Nov 11 2026. No macro, syntax, notation, axiom, sorry.
-/
import Derived.Test.YtkdfdcppeolbjaaChecked
import GoSem.Claim
import GoSem.ClaimJoined
import GoSem.ClaimMapViews
import Derived.JoinedTies
import Derived.KernelRfl
namespace Go.Proofs.Ytkdfdcppeolbjaa
/- THE CELL 'sum', in the pinned program and in every row, IS THE sha256 OF THE DUMP (.gsa) THAT YtkdfdcppeolbjaaProg.lean LOADS. Nothing in Lean hashes anything: it is a label: what it is worth is what the hold of that sum in a sandbox is worth. -/
noncomputable def Try.pinned : Pinned := { name := "ytkdfdcppeolbjaa", sum := "c2ca6d3a15234c5f9ee59cd549972372b23b5a79101f70d4732422597925f28c", checked := Try.checked }
namespace Rows
def none {H : Type} : Left H := { results := [], args := [] }

/-- 'polyptychlaw20.HistOnce': WHATEVER THE INPUT: true; the input reads as it did. -/
def histOnceSpec : ChangeSpec := { name := "histOnce", fn := fun _ => fun
  | [d] => { results := [.lit (.bool true)], args := [d] }
  | _ => none }
def histOnceRow : OpenClaim := { program := "ytkdfdcppeolbjaa", sum := "c2ca6d3a15234c5f9ee59cd549972372b23b5a79101f70d4732422597925f28c", func := "polyptych/polyptychlaw20.HistOnce", spec := "histOnce", unfollowed := true, recurses := true, plainKeys := false, apart := false }
def HistOnceSaid : Prop := histOnceRow.holds Try.pinned (OpenSpec.ofChange histOnceSpec)

/-- ITS FALSE NEIGHBOUR: 'it returns false'. Refute it at one input. -/
def histOnceWrong : ChangeSpec := { name := "histOnce", fn := fun _ => fun
  | [d] => { results := [.lit (.bool false)], args := [d] }
  | _ => none }
def HistOnceWrongFalsely : Prop := histOnceRow.holds Try.pinned (OpenSpec.ofChange histOnceWrong)

/-- 'polyptychlaw20.HistTime': WHATEVER THE INPUT: true; the input reads as it did. -/
def histTimeSpec : ChangeSpec := { name := "histTime", fn := fun _ => fun
  | [d1, d2] => { results := [.lit (.bool true)], args := [d1, d2] }
  | _ => none }
def histTimeRow : OpenClaim := { program := "ytkdfdcppeolbjaa", sum := "c2ca6d3a15234c5f9ee59cd549972372b23b5a79101f70d4732422597925f28c", func := "polyptych/polyptychlaw20.HistTime", spec := "histTime", unfollowed := true, recurses := true, plainKeys := false, apart := false }
def HistTimeSaid : Prop := histTimeRow.holds Try.pinned (OpenSpec.ofChange histTimeSpec)

/-- ITS FALSE NEIGHBOUR: 'it returns false'. Refute it at one input. -/
def histTimeWrong : ChangeSpec := { name := "histTime", fn := fun _ => fun
  | [d1, d2] => { results := [.lit (.bool false)], args := [d1, d2] }
  | _ => none }
def HistTimeWrongFalsely : Prop := histTimeRow.holds Try.pinned (OpenSpec.ofChange histTimeWrong)

/-- 'polyptychlaw20.HistPlays': WHATEVER THE INPUT: true; the input reads as it did. -/
def histPlaysSpec : ChangeSpec := { name := "histPlays", fn := fun _ => fun
  | [d1, d2, d3] => { results := [.lit (.bool true)], args := [d1, d2, d3] }
  | _ => none }
def histPlaysRow : OpenClaim := { program := "ytkdfdcppeolbjaa", sum := "c2ca6d3a15234c5f9ee59cd549972372b23b5a79101f70d4732422597925f28c", func := "polyptych/polyptychlaw20.HistPlays", spec := "histPlays", unfollowed := true, recurses := true, plainKeys := false, apart := false }
def HistPlaysSaid : Prop := histPlaysRow.holds Try.pinned (OpenSpec.ofChange histPlaysSpec)

/-- ITS FALSE NEIGHBOUR: 'it returns false'. Refute it at one input. -/
def histPlaysWrong : ChangeSpec := { name := "histPlays", fn := fun _ => fun
  | [d1, d2, d3] => { results := [.lit (.bool false)], args := [d1, d2, d3] }
  | _ => none }
def HistPlaysWrongFalsely : Prop := histPlaysRow.holds Try.pinned (OpenSpec.ofChange histPlaysWrong)

/- THE SECOND FORM. 'bulk': how many values and letters a reading holds, each counted each time it is reached (what is shared counts as often as it is met; a slice's spare places count too). A statement '..UptoSaid' is the law's where the arguments, and the package variables that the reading takes, are together of bulk at most 1048576: NARROWER than '..Said'. Prove '..Said' where nothing that the law and all that it calls make is longer than what came in: it says more and counts as full. Else prove '..UptoSaid'. A law counts once. -/
mutual
def uptoBulk {H : Type} : DataW H → Nat
  | .lit (.string bytes) => bytes.length + 1
  | .lit _ => 1
  | .nil => 1
  | .ptr d => uptoBulk d + 1
  | .slice elems spare => uptoBulkAll elems + uptoBulkAll spare + 1
  | .agg parts => uptoBulkAll parts + 1
  | .iface _ d => uptoBulk d + 1
  | .map entries => uptoBulkEntries entries + 1
  | .held _ => 1
def uptoBulkAll {H : Type} : List (DataW H) → Nat
  | [] => 0
  | d :: r => uptoBulk d + uptoBulkAll r
def uptoBulkEntries {H : Type} : List (Lit × DataW H) → Nat
  | [] => 0
  | x :: r => uptoBulkEntry x + uptoBulkEntries r
def uptoBulkEntry {H : Type} : Lit × DataW H → Nat
  | (.string bytes, d) => bytes.length + uptoBulk d + 1
  | (_, d) => uptoBulk d + 1
 end
def uptoSmall : (H : Type) → List (DataW H) → Bool := fun _ ds => decide (uptoBulkAll ds ≤ 1048576)
def OpenSpec.upto (s : _root_.Go.ChangeSpec) : _root_.Go.OpenSpec := { _root_.Go.OpenSpec.ofChange s with cond := some uptoSmall }

/-- 'polyptychlaw20.HistOnce', WHERE WHAT IT READS IS OF BULK AT MOST 1048576: true; the input reads as it did. -/
def histOnceUptoRow : OpenClaim := { program := "ytkdfdcppeolbjaa", sum := "c2ca6d3a15234c5f9ee59cd549972372b23b5a79101f70d4732422597925f28c", func := "polyptych/polyptychlaw20.HistOnce", spec := "histOnce", unfollowed := true, recurses := true, plainKeys := false, apart := false, narrowed := true }
def HistOnceUptoSaid : Prop := histOnceUptoRow.holds Try.pinned (OpenSpec.upto histOnceSpec)

/-- 'polyptychlaw20.HistTime', WHERE WHAT IT READS IS OF BULK AT MOST 1048576: true; the input reads as it did. -/
def histTimeUptoRow : OpenClaim := { program := "ytkdfdcppeolbjaa", sum := "c2ca6d3a15234c5f9ee59cd549972372b23b5a79101f70d4732422597925f28c", func := "polyptych/polyptychlaw20.HistTime", spec := "histTime", unfollowed := true, recurses := true, plainKeys := false, apart := false, narrowed := true }
def HistTimeUptoSaid : Prop := histTimeUptoRow.holds Try.pinned (OpenSpec.upto histTimeSpec)

/-- 'polyptychlaw20.HistPlays', WHERE WHAT IT READS IS OF BULK AT MOST 1048576: true; the input reads as it did. -/
def histPlaysUptoRow : OpenClaim := { program := "ytkdfdcppeolbjaa", sum := "c2ca6d3a15234c5f9ee59cd549972372b23b5a79101f70d4732422597925f28c", func := "polyptych/polyptychlaw20.HistPlays", spec := "histPlays", unfollowed := true, recurses := true, plainKeys := false, apart := false, narrowed := true }
def HistPlaysUptoSaid : Prop := histPlaysUptoRow.holds Try.pinned (OpenSpec.upto histPlaysSpec)

end Rows
end Go.Proofs.Ytkdfdcppeolbjaa
