/-
  No cell of these rows narrows 'for every input' (looked for: loops, veiled, ifaces, maps, wideKeys, modest, calm, conditions, laid).
  DERIVED. THE GIVEN ROWS OF THIS SEAT. 2 by the template 'for every input the law returns true; each argument reads behind the call as it read before'; 0 by the template 'total and deterministic' (their statements: YtmjccpfchhnfhaaTotals.lean).
  GIVEN WITH THE SEED: the statements are not yours to turn. If you find one false, say at which input.
  Laid BY PROGRAM, IN A SANDBOX (cutbox-rows.mjs): the forced cells as the released guide's own fill.sh prints them over the translation da9f7d5311ebcf1b… (all of the seat's roots in one cut). By AI agents, Wed Nov 11 2026. No macro, syntax, notation, axiom, sorry.
-/
import Derived.Test.YtmjccpfchhnfhaaChecked
import GoSem.Claim
import GoSem.ClaimJoined
import GoSem.ClaimMapViews
import Derived.JoinedTies
import Derived.KernelRfl
namespace Go.Proofs.Ytmjccpfchhnfhaa
/- THE CELL 'sum', in the pinned program and in every row, IS THE sha256 OF THE DUMP (.gsa) THAT YtmjccpfchhnfhaaProg.lean LOADS. Nothing in Lean hashes anything: it is a label: what it is worth is what the hold of that sum in a sandbox is worth. -/
noncomputable def Try.pinned : Pinned := { name := "ytmjccpfchhnfhaa", sum := "da9f7d5311ebcf1b7bdd6edbdb4dab44b0d113d1692ca368a3e9abb7a72fbe0c", checked := Try.checked }
namespace Rows
def none {H : Type} : Left H := { results := [], args := [] }

/-- 'pursuivantlaw12.FollowGrows': WHATEVER THE INPUT: true; the input reads as it did. -/
def followGrowsSpec : ChangeSpec := { name := "followGrows", fn := fun _ => fun
  | [d1, d2] => { results := [.lit (.bool true)], args := [d1, d2] }
  | _ => none }
def followGrowsRow : OpenClaim := { program := "ytmjccpfchhnfhaa", sum := "da9f7d5311ebcf1b7bdd6edbdb4dab44b0d113d1692ca368a3e9abb7a72fbe0c", func := "pursuivant/pursuivantlaw12.FollowGrows", spec := "followGrows", unfollowed := true, recurses := true, apart := false }
def FollowGrowsSaid : Prop := followGrowsRow.holds Try.pinned (OpenSpec.ofChange followGrowsSpec)

/-- ITS FALSE NEIGHBOUR: 'it returns false'. Refute it at one input. -/
def followGrowsWrong : ChangeSpec := { name := "followGrows", fn := fun _ => fun
  | [d1, d2] => { results := [.lit (.bool false)], args := [d1, d2] }
  | _ => none }
def FollowGrowsWrongFalsely : Prop := followGrowsRow.holds Try.pinned (OpenSpec.ofChange followGrowsWrong)

/-- 'pursuivantlaw13.RaftHeals': WHATEVER THE INPUT: true; the input reads as it did. -/
def raftHealsSpec : ChangeSpec := { name := "raftHeals", fn := fun _ => fun
  | [d1, d2] => { results := [.lit (.bool true)], args := [d1, d2] }
  | _ => none }
def raftHealsRow : OpenClaim := { program := "ytmjccpfchhnfhaa", sum := "da9f7d5311ebcf1b7bdd6edbdb4dab44b0d113d1692ca368a3e9abb7a72fbe0c", func := "pursuivant/pursuivantlaw13.RaftHeals", spec := "raftHeals", unfollowed := true, recurses := true, apart := false }
def RaftHealsSaid : Prop := raftHealsRow.holds Try.pinned (OpenSpec.ofChange raftHealsSpec)

/-- ITS FALSE NEIGHBOUR: 'it returns false'. Refute it at one input. -/
def raftHealsWrong : ChangeSpec := { name := "raftHeals", fn := fun _ => fun
  | [d1, d2] => { results := [.lit (.bool false)], args := [d1, d2] }
  | _ => none }
def RaftHealsWrongFalsely : Prop := raftHealsRow.holds Try.pinned (OpenSpec.ofChange raftHealsWrong)

/- THE SECOND FORM. 'bulk': how many values and letters a reading holds, each counted each time it is reached (what is shared counts as often as it is met; a slice's spare places count too). A statement '..UptoSaid' is the law's where the arguments, and the package variables that the reading takes, are together of bulk at most 1048576: NARROWER than '..Said'. Prove '..Said' where nothing that the law and all that it calls make is longer than what came in: it says more and counts as full. Else prove '..UptoSaid'. A law counts once. -/
mutual
def uptoBulk {H : Type} : DataW H → Nat
  | .lit (.string bytes) => bytes.length + 1
  | .lit _ => 1
  | .nil => 1
  | .ptr d => uptoBulk d + 1
  | .slice elems spare => uptoBulkAll elems + uptoBulkAll spare + 1
  | .agg parts => uptoBulkAll parts + 1
  | .iface _ d => uptoBulk d + 1
  | .map entries => uptoBulkEntries entries + 1
  | .held _ => 1
def uptoBulkAll {H : Type} : List (DataW H) → Nat
  | [] => 0
  | d :: r => uptoBulk d + uptoBulkAll r
def uptoBulkEntries {H : Type} : List (Lit × DataW H) → Nat
  | [] => 0
  | x :: r => uptoBulkEntry x + uptoBulkEntries r
def uptoBulkEntry {H : Type} : Lit × DataW H → Nat
  | (.string bytes, d) => bytes.length + uptoBulk d + 1
  | (_, d) => uptoBulk d + 1
 end
def uptoSmall : (H : Type) → List (DataW H) → Bool := fun _ ds => decide (uptoBulkAll ds ≤ 1048576)
def OpenSpec.upto (s : _root_.Go.ChangeSpec) : _root_.Go.OpenSpec := { _root_.Go.OpenSpec.ofChange s with cond := some uptoSmall }

/-- 'pursuivantlaw12.FollowGrows', WHERE WHAT IT READS IS OF BULK AT MOST 1048576: true; the input reads as it did. -/
def followGrowsUptoRow : OpenClaim := { program := "ytmjccpfchhnfhaa", sum := "da9f7d5311ebcf1b7bdd6edbdb4dab44b0d113d1692ca368a3e9abb7a72fbe0c", func := "pursuivant/pursuivantlaw12.FollowGrows", spec := "followGrows", unfollowed := true, recurses := true, apart := false, narrowed := true }
def FollowGrowsUptoSaid : Prop := followGrowsUptoRow.holds Try.pinned (OpenSpec.upto followGrowsSpec)

/-- 'pursuivantlaw13.RaftHeals', WHERE WHAT IT READS IS OF BULK AT MOST 1048576: true; the input reads as it did. -/
def raftHealsUptoRow : OpenClaim := { program := "ytmjccpfchhnfhaa", sum := "da9f7d5311ebcf1b7bdd6edbdb4dab44b0d113d1692ca368a3e9abb7a72fbe0c", func := "pursuivant/pursuivantlaw13.RaftHeals", spec := "raftHeals", unfollowed := true, recurses := true, apart := false, narrowed := true }
def RaftHealsUptoSaid : Prop := raftHealsUptoRow.holds Try.pinned (OpenSpec.upto raftHealsSpec)

end Rows
end Go.Proofs.Ytmjccpfchhnfhaa
