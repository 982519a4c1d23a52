/-
  No cell of these rows narrows 'for every input' (looked for: loops, veiled, ifaces, maps, wideKeys, modest, calm, conditions, laid).
  DERIVED. THE GIVEN ROWS OF THIS SEAT. 4 by the template 'for every input the law returns true; each argument reads behind the call as it read before'; 0 by the template 'total and deterministic' (their statements: YtdkpohnjcbmnoaaTotals.lean).
  GIVEN WITH THE SEED: the statements are not yours to turn. If you find one false, say at which input.
  Laid BY PROGRAM, IN A SANDBOX (cutbox-rows.mjs): the forced cells as the released guide's own fill.sh prints them over the translation 3ee9f69a29bf4af4… (all of the seat's roots in one cut). By AI agents, Wed Nov 11 2026. No macro, syntax, notation, axiom, sorry.
-/
import Derived.Test.YtdkpohnjcbmnoaaChecked
import GoSem.Claim
import GoSem.ClaimJoined
import GoSem.ClaimMapViews
import Derived.JoinedTies
import Derived.KernelRfl
namespace Go.Proofs.Ytdkpohnjcbmnoaa
/- THE CELL 'sum', in the pinned program and in every row, IS THE sha256 OF THE DUMP (.gsa) THAT YtdkpohnjcbmnoaaProg.lean LOADS. Nothing in Lean hashes anything: it is a label: what it is worth is what the hold of that sum in a sandbox is worth. -/
noncomputable def Try.pinned : Pinned := { name := "ytdkpohnjcbmnoaa", sum := "3ee9f69a29bf4af4bd2bfd8ca09b3f27d59167c0d5294b6cf65c3402a1b503b8", checked := Try.checked }
namespace Rows
def none {H : Type} : Left H := { results := [], args := [] }

/-- 'polyptychlaw8.RatiForms': WHATEVER THE INPUT: true; the input reads as it did. -/
def ratiFormsSpec : ChangeSpec := { name := "ratiForms", fn := fun _ => fun
  | [d] => { results := [.lit (.bool true)], args := [d] }
  | _ => none }
def ratiFormsRow : OpenClaim := { program := "ytdkpohnjcbmnoaa", sum := "3ee9f69a29bf4af4bd2bfd8ca09b3f27d59167c0d5294b6cf65c3402a1b503b8", func := "polyptych/polyptychlaw8.RatiForms", spec := "ratiForms", inPlace := ["math.Float64bits", "math.Float64frombits"], apart := false }
def RatiFormsSaid : Prop := ratiFormsRow.holds Try.pinned (OpenSpec.ofChange ratiFormsSpec)

/-- ITS FALSE NEIGHBOUR: 'it returns false'. Refute it at one input. -/
def ratiFormsWrong : ChangeSpec := { name := "ratiForms", fn := fun _ => fun
  | [d] => { results := [.lit (.bool false)], args := [d] }
  | _ => none }
def RatiFormsWrongFalsely : Prop := ratiFormsRow.holds Try.pinned (OpenSpec.ofChange ratiFormsWrong)

/-- 'polyptychlaw8.RatiSame': WHATEVER THE INPUT: true; the input reads as it did. -/
def ratiSameSpec : ChangeSpec := { name := "ratiSame", fn := fun _ => fun
  | [d1, d2] => { results := [.lit (.bool true)], args := [d1, d2] }
  | _ => none }
def ratiSameRow : OpenClaim := { program := "ytdkpohnjcbmnoaa", sum := "3ee9f69a29bf4af4bd2bfd8ca09b3f27d59167c0d5294b6cf65c3402a1b503b8", func := "polyptych/polyptychlaw8.RatiSame", spec := "ratiSame", inPlace := ["math.Float64frombits", "math.Float64bits"], apart := false }
def RatiSameSaid : Prop := ratiSameRow.holds Try.pinned (OpenSpec.ofChange ratiSameSpec)

/-- ITS FALSE NEIGHBOUR: 'it returns false'. Refute it at one input. -/
def ratiSameWrong : ChangeSpec := { name := "ratiSame", fn := fun _ => fun
  | [d1, d2] => { results := [.lit (.bool false)], args := [d1, d2] }
  | _ => none }
def RatiSameWrongFalsely : Prop := ratiSameRow.holds Try.pinned (OpenSpec.ofChange ratiSameWrong)

/-- 'polyptychlaw8.RatiTells': WHATEVER THE INPUT: true; the input reads as it did. -/
def ratiTellsSpec : ChangeSpec := { name := "ratiTells", fn := fun _ => fun
  | [d1, d2, d3, d4, d5] => { results := [.lit (.bool true)], args := [d1, d2, d3, d4, d5] }
  | _ => none }
def ratiTellsRow : OpenClaim := { program := "ytdkpohnjcbmnoaa", sum := "3ee9f69a29bf4af4bd2bfd8ca09b3f27d59167c0d5294b6cf65c3402a1b503b8", func := "polyptych/polyptychlaw8.RatiTells", spec := "ratiTells", inPlace := ["math.Float64bits", "math.Float64frombits"], apart := false }
def RatiTellsSaid : Prop := ratiTellsRow.holds Try.pinned (OpenSpec.ofChange ratiTellsSpec)

/-- ITS FALSE NEIGHBOUR: 'it returns false'. Refute it at one input. -/
def ratiTellsWrong : ChangeSpec := { name := "ratiTells", fn := fun _ => fun
  | [d1, d2, d3, d4, d5] => { results := [.lit (.bool false)], args := [d1, d2, d3, d4, d5] }
  | _ => none }
def RatiTellsWrongFalsely : Prop := ratiTellsRow.holds Try.pinned (OpenSpec.ofChange ratiTellsWrong)

/-- 'polyptychlaw8.RatiRises': WHATEVER THE INPUT: true; the input reads as it did. -/
def ratiRisesSpec : ChangeSpec := { name := "ratiRises", fn := fun _ => fun
  | [d1, d2, d3, d4] => { results := [.lit (.bool true)], args := [d1, d2, d3, d4] }
  | _ => none }
def ratiRisesRow : OpenClaim := { program := "ytdkpohnjcbmnoaa", sum := "3ee9f69a29bf4af4bd2bfd8ca09b3f27d59167c0d5294b6cf65c3402a1b503b8", func := "polyptych/polyptychlaw8.RatiRises", spec := "ratiRises", inPlace := ["math.Float64bits", "math.Float64frombits"], apart := false }
def RatiRisesSaid : Prop := ratiRisesRow.holds Try.pinned (OpenSpec.ofChange ratiRisesSpec)

/-- ITS FALSE NEIGHBOUR: 'it returns false'. Refute it at one input. -/
def ratiRisesWrong : ChangeSpec := { name := "ratiRises", fn := fun _ => fun
  | [d1, d2, d3, d4] => { results := [.lit (.bool false)], args := [d1, d2, d3, d4] }
  | _ => none }
def RatiRisesWrongFalsely : Prop := ratiRisesRow.holds Try.pinned (OpenSpec.ofChange ratiRisesWrong)

/- THE SECOND FORM. 'bulk': how many values and letters a reading holds, each counted each time it is reached (what is shared counts as often as it is met; a slice's spare places count too). A statement '..UptoSaid' is the law's where the arguments, and the package variables that the reading takes, are together of bulk at most 1048576: NARROWER than '..Said'. Prove '..Said' where nothing that the law and all that it calls make is longer than what came in: it says more and counts as full. Else prove '..UptoSaid'. A law counts once. -/
mutual
def uptoBulk {H : Type} : DataW H → Nat
  | .lit (.string bytes) => bytes.length + 1
  | .lit _ => 1
  | .nil => 1
  | .ptr d => uptoBulk d + 1
  | .slice elems spare => uptoBulkAll elems + uptoBulkAll spare + 1
  | .agg parts => uptoBulkAll parts + 1
  | .iface _ d => uptoBulk d + 1
  | .map entries => uptoBulkEntries entries + 1
  | .held _ => 1
def uptoBulkAll {H : Type} : List (DataW H) → Nat
  | [] => 0
  | d :: r => uptoBulk d + uptoBulkAll r
def uptoBulkEntries {H : Type} : List (Lit × DataW H) → Nat
  | [] => 0
  | x :: r => uptoBulkEntry x + uptoBulkEntries r
def uptoBulkEntry {H : Type} : Lit × DataW H → Nat
  | (.string bytes, d) => bytes.length + uptoBulk d + 1
  | (_, d) => uptoBulk d + 1
 end
def uptoSmall : (H : Type) → List (DataW H) → Bool := fun _ ds => decide (uptoBulkAll ds ≤ 1048576)
def OpenSpec.upto (s : _root_.Go.ChangeSpec) : _root_.Go.OpenSpec := { _root_.Go.OpenSpec.ofChange s with cond := some uptoSmall }

/-- 'polyptychlaw8.RatiForms', WHERE WHAT IT READS IS OF BULK AT MOST 1048576: true; the input reads as it did. -/
def ratiFormsUptoRow : OpenClaim := { program := "ytdkpohnjcbmnoaa", sum := "3ee9f69a29bf4af4bd2bfd8ca09b3f27d59167c0d5294b6cf65c3402a1b503b8", func := "polyptych/polyptychlaw8.RatiForms", spec := "ratiForms", inPlace := ["math.Float64bits", "math.Float64frombits"], apart := false, narrowed := true }
def RatiFormsUptoSaid : Prop := ratiFormsUptoRow.holds Try.pinned (OpenSpec.upto ratiFormsSpec)

/-- 'polyptychlaw8.RatiSame', WHERE WHAT IT READS IS OF BULK AT MOST 1048576: true; the input reads as it did. -/
def ratiSameUptoRow : OpenClaim := { program := "ytdkpohnjcbmnoaa", sum := "3ee9f69a29bf4af4bd2bfd8ca09b3f27d59167c0d5294b6cf65c3402a1b503b8", func := "polyptych/polyptychlaw8.RatiSame", spec := "ratiSame", inPlace := ["math.Float64frombits", "math.Float64bits"], apart := false, narrowed := true }
def RatiSameUptoSaid : Prop := ratiSameUptoRow.holds Try.pinned (OpenSpec.upto ratiSameSpec)

/-- 'polyptychlaw8.RatiTells', WHERE WHAT IT READS IS OF BULK AT MOST 1048576: true; the input reads as it did. -/
def ratiTellsUptoRow : OpenClaim := { program := "ytdkpohnjcbmnoaa", sum := "3ee9f69a29bf4af4bd2bfd8ca09b3f27d59167c0d5294b6cf65c3402a1b503b8", func := "polyptych/polyptychlaw8.RatiTells", spec := "ratiTells", inPlace := ["math.Float64bits", "math.Float64frombits"], apart := false, narrowed := true }
def RatiTellsUptoSaid : Prop := ratiTellsUptoRow.holds Try.pinned (OpenSpec.upto ratiTellsSpec)

/-- 'polyptychlaw8.RatiRises', WHERE WHAT IT READS IS OF BULK AT MOST 1048576: true; the input reads as it did. -/
def ratiRisesUptoRow : OpenClaim := { program := "ytdkpohnjcbmnoaa", sum := "3ee9f69a29bf4af4bd2bfd8ca09b3f27d59167c0d5294b6cf65c3402a1b503b8", func := "polyptych/polyptychlaw8.RatiRises", spec := "ratiRises", inPlace := ["math.Float64bits", "math.Float64frombits"], apart := false, narrowed := true }
def RatiRisesUptoSaid : Prop := ratiRisesUptoRow.holds Try.pinned (OpenSpec.upto ratiRisesSpec)

end Rows
end Go.Proofs.Ytdkpohnjcbmnoaa
