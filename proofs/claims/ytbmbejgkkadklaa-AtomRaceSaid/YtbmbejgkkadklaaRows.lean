/-
  No cell of these rows narrows 'for every input' (looked for: loops, veiled, ifaces, maps, wideKeys, modest, calm, conditions, laid).
  DERIVED. THE GIVEN ROWS OF THIS SEAT. 2 by the template 'for every input the law returns true; each argument reads behind the call as it read before'; 0 by the template 'total and deterministic' (their statements: YtbmbejgkkadklaaTotals.lean).
  GIVEN WITH THE SEED: the statements are not yours to turn. If you find one false, say at which input.
  Laid BY PROGRAM, IN A SANDBOX (cutbox-rows.mjs): the forced cells as the released guide's own fill.sh prints them over the translation d8eb516404b5f239… (all of the seat's roots in one cut). By AI agents, Wed Nov 11 2026. No macro, syntax, notation, axiom, sorry.
-/
import Derived.Test.YtbmbejgkkadklaaChecked
import GoSem.Claim
import GoSem.ClaimJoined
import GoSem.ClaimMapViews
import Derived.JoinedTies
import Derived.KernelRfl
namespace Go.Proofs.Ytbmbejgkkadklaa
/- THE CELL 'sum', in the pinned program and in every row, IS THE sha256 OF THE DUMP (.gsa) THAT YtbmbejgkkadklaaProg.lean LOADS. Nothing in Lean hashes anything: it is a label: what it is worth is what the hold of that sum in a sandbox is worth. -/
noncomputable def Try.pinned : Pinned := { name := "ytbmbejgkkadklaa", sum := "d8eb516404b5f23953f987ad245bc76241d0023c332fc6b3015078623862db86", checked := Try.checked }
namespace Rows
def none {H : Type} : Left H := { results := [], args := [] }

/-- 'polyptychlaw17.AtomRace': WHATEVER THE INPUT: true; the input reads as it did. -/
def atomRaceSpec : ChangeSpec := { name := "atomRace", fn := fun _ => fun
  | [d1, d2] => { results := [.lit (.bool true)], args := [d1, d2] }
  | _ => none }
def atomRaceRow : OpenClaim := { program := "ytbmbejgkkadklaa", sum := "d8eb516404b5f23953f987ad245bc76241d0023c332fc6b3015078623862db86", func := "polyptych/polyptychlaw17.AtomRace", spec := "atomRace", apart := false }
def AtomRaceSaid : Prop := atomRaceRow.holds Try.pinned (OpenSpec.ofChange atomRaceSpec)

/-- ITS FALSE NEIGHBOUR: 'it returns false'. Refute it at one input. -/
def atomRaceWrong : ChangeSpec := { name := "atomRace", fn := fun _ => fun
  | [d1, d2] => { results := [.lit (.bool false)], args := [d1, d2] }
  | _ => none }
def AtomRaceWrongFalsely : Prop := atomRaceRow.holds Try.pinned (OpenSpec.ofChange atomRaceWrong)

/-- 'polyptychlaw17.AtomPlays': WHATEVER THE INPUT: true; the input reads as it did. -/
def atomPlaysSpec : ChangeSpec := { name := "atomPlays", fn := fun _ => fun
  | [d1, d2, d3] => { results := [.lit (.bool true)], args := [d1, d2, d3] }
  | _ => none }
def atomPlaysRow : OpenClaim := { program := "ytbmbejgkkadklaa", sum := "d8eb516404b5f23953f987ad245bc76241d0023c332fc6b3015078623862db86", func := "polyptych/polyptychlaw17.AtomPlays", spec := "atomPlays", apart := false }
def AtomPlaysSaid : Prop := atomPlaysRow.holds Try.pinned (OpenSpec.ofChange atomPlaysSpec)

/-- ITS FALSE NEIGHBOUR: 'it returns false'. Refute it at one input. -/
def atomPlaysWrong : ChangeSpec := { name := "atomPlays", fn := fun _ => fun
  | [d1, d2, d3] => { results := [.lit (.bool false)], args := [d1, d2, d3] }
  | _ => none }
def AtomPlaysWrongFalsely : Prop := atomPlaysRow.holds Try.pinned (OpenSpec.ofChange atomPlaysWrong)

/- THE SECOND FORM. 'bulk': how many values and letters a reading holds, each counted each time it is reached (what is shared counts as often as it is met; a slice's spare places count too). A statement '..UptoSaid' is the law's where the arguments, and the package variables that the reading takes, are together of bulk at most 1048576: NARROWER than '..Said'. Prove '..Said' where nothing that the law and all that it calls make is longer than what came in: it says more and counts as full. Else prove '..UptoSaid'. A law counts once. -/
mutual
def uptoBulk {H : Type} : DataW H → Nat
  | .lit (.string bytes) => bytes.length + 1
  | .lit _ => 1
  | .nil => 1
  | .ptr d => uptoBulk d + 1
  | .slice elems spare => uptoBulkAll elems + uptoBulkAll spare + 1
  | .agg parts => uptoBulkAll parts + 1
  | .iface _ d => uptoBulk d + 1
  | .map entries => uptoBulkEntries entries + 1
  | .held _ => 1
def uptoBulkAll {H : Type} : List (DataW H) → Nat
  | [] => 0
  | d :: r => uptoBulk d + uptoBulkAll r
def uptoBulkEntries {H : Type} : List (Lit × DataW H) → Nat
  | [] => 0
  | x :: r => uptoBulkEntry x + uptoBulkEntries r
def uptoBulkEntry {H : Type} : Lit × DataW H → Nat
  | (.string bytes, d) => bytes.length + uptoBulk d + 1
  | (_, d) => uptoBulk d + 1
 end
def uptoSmall : (H : Type) → List (DataW H) → Bool := fun _ ds => decide (uptoBulkAll ds ≤ 1048576)
def OpenSpec.upto (s : _root_.Go.ChangeSpec) : _root_.Go.OpenSpec := { _root_.Go.OpenSpec.ofChange s with cond := some uptoSmall }

/-- 'polyptychlaw17.AtomRace', WHERE WHAT IT READS IS OF BULK AT MOST 1048576: true; the input reads as it did. -/
def atomRaceUptoRow : OpenClaim := { program := "ytbmbejgkkadklaa", sum := "d8eb516404b5f23953f987ad245bc76241d0023c332fc6b3015078623862db86", func := "polyptych/polyptychlaw17.AtomRace", spec := "atomRace", apart := false, narrowed := true }
def AtomRaceUptoSaid : Prop := atomRaceUptoRow.holds Try.pinned (OpenSpec.upto atomRaceSpec)

/-- 'polyptychlaw17.AtomPlays', WHERE WHAT IT READS IS OF BULK AT MOST 1048576: true; the input reads as it did. -/
def atomPlaysUptoRow : OpenClaim := { program := "ytbmbejgkkadklaa", sum := "d8eb516404b5f23953f987ad245bc76241d0023c332fc6b3015078623862db86", func := "polyptych/polyptychlaw17.AtomPlays", spec := "atomPlays", apart := false, narrowed := true }
def AtomPlaysUptoSaid : Prop := atomPlaysUptoRow.holds Try.pinned (OpenSpec.upto atomPlaysSpec)

end Rows
end Go.Proofs.Ytbmbejgkkadklaa
