/-
  No cell of these rows narrows 'for every input' (looked for: loops, veiled, ifaces, maps, wideKeys, modest, calm, conditions, laid).
  DERIVED. THE GIVEN ROWS OF THIS SEAT. 6 by the template 'for every input the law returns true; each argument reads behind the call as it read before'; 0 by the template 'total and deterministic' (their statements: YtpecpanmdjpoiaaTotals.lean).
  GIVEN WITH THE SEED: the statements are not yours to turn. If you find one false, say at which input.
  Laid BY PROGRAM, IN A SANDBOX (cutbox-rows.mjs): the forced cells as the released guide's own fill.sh prints them over the translation 4037d17ee97436ae… (all of the seat's roots in one cut). By AI agents, Wed Nov 11 2026. No macro, syntax, notation, axiom, sorry.
-/
import Derived.Test.YtpecpanmdjpoiaaChecked
import GoSem.Claim
import GoSem.ClaimJoined
import GoSem.ClaimMapViews
import Derived.JoinedTies
import Derived.KernelRfl
namespace Go.Proofs.Ytpecpanmdjpoiaa
/- THE CELL 'sum', in the pinned program and in every row, IS THE sha256 OF THE DUMP (.gsa) THAT YtpecpanmdjpoiaaProg.lean LOADS. Nothing in Lean hashes anything: it is a label: what it is worth is what the hold of that sum in a sandbox is worth. -/
noncomputable def Try.pinned : Pinned := { name := "ytpecpanmdjpoiaa", sum := "4037d17ee97436aecea96fcf2bd9ae26c75a11101abd26aa17cfa0ca513903e6", checked := Try.checked }
namespace Rows
def none {H : Type} : Left H := { results := [], args := [] }

/-- 'pursuivantlaw10.QuorumMeets': WHATEVER THE INPUT: true; the input reads as it did. -/
def quorumMeetsSpec : ChangeSpec := { name := "quorumMeets", fn := fun _ => fun
  | [d1, d2] => { results := [.lit (.bool true)], args := [d1, d2] }
  | _ => none }
def quorumMeetsRow : OpenClaim := { program := "ytpecpanmdjpoiaa", sum := "4037d17ee97436aecea96fcf2bd9ae26c75a11101abd26aa17cfa0ca513903e6", func := "pursuivant/pursuivantlaw10.QuorumMeets", spec := "quorumMeets", recurses := true, apart := false }
def QuorumMeetsSaid : Prop := quorumMeetsRow.holds Try.pinned (OpenSpec.ofChange quorumMeetsSpec)

/-- ITS FALSE NEIGHBOUR: 'it returns false'. Refute it at one input. -/
def quorumMeetsWrong : ChangeSpec := { name := "quorumMeets", fn := fun _ => fun
  | [d1, d2] => { results := [.lit (.bool false)], args := [d1, d2] }
  | _ => none }
def QuorumMeetsWrongFalsely : Prop := quorumMeetsRow.holds Try.pinned (OpenSpec.ofChange quorumMeetsWrong)

/-- 'pursuivantlaw10.QuorumReached': WHATEVER THE INPUT: true; the input reads as it did. -/
def quorumReachedSpec : ChangeSpec := { name := "quorumReached", fn := fun _ => fun
  | [d1, d2, d3, d4] => { results := [.lit (.bool true)], args := [d1, d2, d3, d4] }
  | _ => none }
def quorumReachedRow : OpenClaim := { program := "ytpecpanmdjpoiaa", sum := "4037d17ee97436aecea96fcf2bd9ae26c75a11101abd26aa17cfa0ca513903e6", func := "pursuivant/pursuivantlaw10.QuorumReached", spec := "quorumReached", recurses := true, apart := false }
def QuorumReachedSaid : Prop := quorumReachedRow.holds Try.pinned (OpenSpec.ofChange quorumReachedSpec)

/-- ITS FALSE NEIGHBOUR: 'it returns false'. Refute it at one input. -/
def quorumReachedWrong : ChangeSpec := { name := "quorumReached", fn := fun _ => fun
  | [d1, d2, d3, d4] => { results := [.lit (.bool false)], args := [d1, d2, d3, d4] }
  | _ => none }
def QuorumReachedWrongFalsely : Prop := quorumReachedRow.holds Try.pinned (OpenSpec.ofChange quorumReachedWrong)

/-- 'pursuivantlaw10.QuorumTells': WHATEVER THE INPUT: true; the input reads as it did. -/
def quorumTellsSpec : ChangeSpec := { name := "quorumTells", fn := fun _ => fun
  | [d1, d2, d3] => { results := [.lit (.bool true)], args := [d1, d2, d3] }
  | _ => none }
def quorumTellsRow : OpenClaim := { program := "ytpecpanmdjpoiaa", sum := "4037d17ee97436aecea96fcf2bd9ae26c75a11101abd26aa17cfa0ca513903e6", func := "pursuivant/pursuivantlaw10.QuorumTells", spec := "quorumTells", recurses := true, apart := false }
def QuorumTellsSaid : Prop := quorumTellsRow.holds Try.pinned (OpenSpec.ofChange quorumTellsSpec)

/-- ITS FALSE NEIGHBOUR: 'it returns false'. Refute it at one input. -/
def quorumTellsWrong : ChangeSpec := { name := "quorumTells", fn := fun _ => fun
  | [d1, d2, d3] => { results := [.lit (.bool false)], args := [d1, d2, d3] }
  | _ => none }
def QuorumTellsWrongFalsely : Prop := quorumTellsRow.holds Try.pinned (OpenSpec.ofChange quorumTellsWrong)

/-- 'pursuivantlaw10.QuorumChanges': WHATEVER THE INPUT: true; the input reads as it did. -/
def quorumChangesSpec : ChangeSpec := { name := "quorumChanges", fn := fun _ => fun
  | [d1, d2] => { results := [.lit (.bool true)], args := [d1, d2] }
  | _ => none }
def quorumChangesRow : OpenClaim := { program := "ytpecpanmdjpoiaa", sum := "4037d17ee97436aecea96fcf2bd9ae26c75a11101abd26aa17cfa0ca513903e6", func := "pursuivant/pursuivantlaw10.QuorumChanges", spec := "quorumChanges", inPlace := ["slices.overlaps[int]"], recurses := true, apart := false }
def QuorumChangesSaid : Prop := quorumChangesRow.holds Try.pinned (OpenSpec.ofChange quorumChangesSpec)

/-- ITS FALSE NEIGHBOUR: 'it returns false'. Refute it at one input. -/
def quorumChangesWrong : ChangeSpec := { name := "quorumChanges", fn := fun _ => fun
  | [d1, d2] => { results := [.lit (.bool false)], args := [d1, d2] }
  | _ => none }
def QuorumChangesWrongFalsely : Prop := quorumChangesRow.holds Try.pinned (OpenSpec.ofChange quorumChangesWrong)

/-- 'pursuivantlaw10.QuorumOne': WHATEVER THE INPUT: true; the input reads as it did. -/
def quorumOneSpec : ChangeSpec := { name := "quorumOne", fn := fun _ => fun
  | [d1, d2, d3, d4] => { results := [.lit (.bool true)], args := [d1, d2, d3, d4] }
  | _ => none }
def quorumOneRow : OpenClaim := { program := "ytpecpanmdjpoiaa", sum := "4037d17ee97436aecea96fcf2bd9ae26c75a11101abd26aa17cfa0ca513903e6", func := "pursuivant/pursuivantlaw10.QuorumOne", spec := "quorumOne", inPlace := ["slices.overlaps[int]"], recurses := true, apart := false }
def QuorumOneSaid : Prop := quorumOneRow.holds Try.pinned (OpenSpec.ofChange quorumOneSpec)

/-- ITS FALSE NEIGHBOUR: 'it returns false'. Refute it at one input. -/
def quorumOneWrong : ChangeSpec := { name := "quorumOne", fn := fun _ => fun
  | [d1, d2, d3, d4] => { results := [.lit (.bool false)], args := [d1, d2, d3, d4] }
  | _ => none }
def QuorumOneWrongFalsely : Prop := quorumOneRow.holds Try.pinned (OpenSpec.ofChange quorumOneWrong)

/-- 'pursuivantlaw10.QuorumBack': WHATEVER THE INPUT: true; the input reads as it did. -/
def quorumBackSpec : ChangeSpec := { name := "quorumBack", fn := fun _ => fun
  | [d1, d2] => { results := [.lit (.bool true)], args := [d1, d2] }
  | _ => none }
def quorumBackRow : OpenClaim := { program := "ytpecpanmdjpoiaa", sum := "4037d17ee97436aecea96fcf2bd9ae26c75a11101abd26aa17cfa0ca513903e6", func := "pursuivant/pursuivantlaw10.QuorumBack", spec := "quorumBack", inPlace := ["slices.overlaps[int]"], recurses := true, apart := false }
def QuorumBackSaid : Prop := quorumBackRow.holds Try.pinned (OpenSpec.ofChange quorumBackSpec)

/-- ITS FALSE NEIGHBOUR: 'it returns false'. Refute it at one input. -/
def quorumBackWrong : ChangeSpec := { name := "quorumBack", fn := fun _ => fun
  | [d1, d2] => { results := [.lit (.bool false)], args := [d1, d2] }
  | _ => none }
def QuorumBackWrongFalsely : Prop := quorumBackRow.holds Try.pinned (OpenSpec.ofChange quorumBackWrong)

/- THE SECOND FORM. 'bulk': how many values and letters a reading holds, each counted each time it is reached (what is shared counts as often as it is met; a slice's spare places count too). A statement '..UptoSaid' is the law's where the arguments, and the package variables that the reading takes, are together of bulk at most 1048576: NARROWER than '..Said'. Prove '..Said' where nothing that the law and all that it calls make is longer than what came in: it says more and counts as full. Else prove '..UptoSaid'. A law counts once. -/
mutual
def uptoBulk {H : Type} : DataW H → Nat
  | .lit (.string bytes) => bytes.length + 1
  | .lit _ => 1
  | .nil => 1
  | .ptr d => uptoBulk d + 1
  | .slice elems spare => uptoBulkAll elems + uptoBulkAll spare + 1
  | .agg parts => uptoBulkAll parts + 1
  | .iface _ d => uptoBulk d + 1
  | .map entries => uptoBulkEntries entries + 1
  | .held _ => 1
def uptoBulkAll {H : Type} : List (DataW H) → Nat
  | [] => 0
  | d :: r => uptoBulk d + uptoBulkAll r
def uptoBulkEntries {H : Type} : List (Lit × DataW H) → Nat
  | [] => 0
  | x :: r => uptoBulkEntry x + uptoBulkEntries r
def uptoBulkEntry {H : Type} : Lit × DataW H → Nat
  | (.string bytes, d) => bytes.length + uptoBulk d + 1
  | (_, d) => uptoBulk d + 1
 end
def uptoSmall : (H : Type) → List (DataW H) → Bool := fun _ ds => decide (uptoBulkAll ds ≤ 1048576)
def OpenSpec.upto (s : _root_.Go.ChangeSpec) : _root_.Go.OpenSpec := { _root_.Go.OpenSpec.ofChange s with cond := some uptoSmall }

/-- 'pursuivantlaw10.QuorumMeets', WHERE WHAT IT READS IS OF BULK AT MOST 1048576: true; the input reads as it did. -/
def quorumMeetsUptoRow : OpenClaim := { program := "ytpecpanmdjpoiaa", sum := "4037d17ee97436aecea96fcf2bd9ae26c75a11101abd26aa17cfa0ca513903e6", func := "pursuivant/pursuivantlaw10.QuorumMeets", spec := "quorumMeets", recurses := true, apart := false, narrowed := true }
def QuorumMeetsUptoSaid : Prop := quorumMeetsUptoRow.holds Try.pinned (OpenSpec.upto quorumMeetsSpec)

/-- 'pursuivantlaw10.QuorumReached', WHERE WHAT IT READS IS OF BULK AT MOST 1048576: true; the input reads as it did. -/
def quorumReachedUptoRow : OpenClaim := { program := "ytpecpanmdjpoiaa", sum := "4037d17ee97436aecea96fcf2bd9ae26c75a11101abd26aa17cfa0ca513903e6", func := "pursuivant/pursuivantlaw10.QuorumReached", spec := "quorumReached", recurses := true, apart := false, narrowed := true }
def QuorumReachedUptoSaid : Prop := quorumReachedUptoRow.holds Try.pinned (OpenSpec.upto quorumReachedSpec)

/-- 'pursuivantlaw10.QuorumTells', WHERE WHAT IT READS IS OF BULK AT MOST 1048576: true; the input reads as it did. -/
def quorumTellsUptoRow : OpenClaim := { program := "ytpecpanmdjpoiaa", sum := "4037d17ee97436aecea96fcf2bd9ae26c75a11101abd26aa17cfa0ca513903e6", func := "pursuivant/pursuivantlaw10.QuorumTells", spec := "quorumTells", recurses := true, apart := false, narrowed := true }
def QuorumTellsUptoSaid : Prop := quorumTellsUptoRow.holds Try.pinned (OpenSpec.upto quorumTellsSpec)

/-- 'pursuivantlaw10.QuorumChanges', WHERE WHAT IT READS IS OF BULK AT MOST 1048576: true; the input reads as it did. -/
def quorumChangesUptoRow : OpenClaim := { program := "ytpecpanmdjpoiaa", sum := "4037d17ee97436aecea96fcf2bd9ae26c75a11101abd26aa17cfa0ca513903e6", func := "pursuivant/pursuivantlaw10.QuorumChanges", spec := "quorumChanges", inPlace := ["slices.overlaps[int]"], recurses := true, apart := false, narrowed := true }
def QuorumChangesUptoSaid : Prop := quorumChangesUptoRow.holds Try.pinned (OpenSpec.upto quorumChangesSpec)

/-- 'pursuivantlaw10.QuorumOne', WHERE WHAT IT READS IS OF BULK AT MOST 1048576: true; the input reads as it did. -/
def quorumOneUptoRow : OpenClaim := { program := "ytpecpanmdjpoiaa", sum := "4037d17ee97436aecea96fcf2bd9ae26c75a11101abd26aa17cfa0ca513903e6", func := "pursuivant/pursuivantlaw10.QuorumOne", spec := "quorumOne", inPlace := ["slices.overlaps[int]"], recurses := true, apart := false, narrowed := true }
def QuorumOneUptoSaid : Prop := quorumOneUptoRow.holds Try.pinned (OpenSpec.upto quorumOneSpec)

/-- 'pursuivantlaw10.QuorumBack', WHERE WHAT IT READS IS OF BULK AT MOST 1048576: true; the input reads as it did. -/
def quorumBackUptoRow : OpenClaim := { program := "ytpecpanmdjpoiaa", sum := "4037d17ee97436aecea96fcf2bd9ae26c75a11101abd26aa17cfa0ca513903e6", func := "pursuivant/pursuivantlaw10.QuorumBack", spec := "quorumBack", inPlace := ["slices.overlaps[int]"], recurses := true, apart := false, narrowed := true }
def QuorumBackUptoSaid : Prop := quorumBackUptoRow.holds Try.pinned (OpenSpec.upto quorumBackSpec)

end Rows
end Go.Proofs.Ytpecpanmdjpoiaa
