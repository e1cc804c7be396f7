/-
  No cell of these rows narrows 'for every input' (looked for: loops, veiled, ifaces, maps, wideKeys, modest, calm, conditions, laid).
  DERIVED. THE GIVEN ROWS OF THIS SEAT. 4 by the template 'for every input the law returns true; each argument reads behind the call as it read before'; 0 by the template 'total and deterministic' (their statements: YtmjccpfchhnfhaaGreatTotals.lean).
  GIVEN WITH THE SEED: the statements are not yours to turn. If you find one false, say at which input.
  Laid BY PROGRAM, IN A SANDBOX (cutbox-rows.mjs): the forced cells as the released guide's own fill.sh prints them over the translation d61bed569e118008… (all of the seat's roots in one cut). By AI agents, Wed Nov 11 2026. No macro, syntax, notation, axiom, sorry.
-/
import Derived.Test.YtmjccpfchhnfhaaGreatChecked
import GoSem.Claim
import GoSem.ClaimJoined
import GoSem.ClaimMapViews
import Derived.JoinedTies
import Derived.KernelRfl
namespace Go.Proofs.YtmjccpfchhnfhaaGreat
/- THE CELL 'sum', in the pinned program and in every row, IS THE sha256 OF THE DUMP (.gsa) THAT YtmjccpfchhnfhaaGreatProg.lean LOADS. Nothing in Lean hashes anything: it is a label: what it is worth is what the hold of that sum in a sandbox is worth. -/
noncomputable def Tryz.pinned : Pinned := { name := "ytmjccpfchhnfhaagreat", sum := "d61bed569e1180080c94c842430438f4f1ffdb57d2099b172973c7f7d7177ae4", checked := Tryz.checked }
namespace Rows
def none {H : Type} : Left H := { results := [], args := [] }

/-- 'pursuivantlaw12.FollowHears': WHATEVER THE INPUT: true; the input reads as it did. -/
def followHearsSpec : ChangeSpec := { name := "followHears", fn := fun _ => fun
  | [d1, d2] => { results := [.lit (.bool true)], args := [d1, d2] }
  | _ => none }
def followHearsRow : OpenClaim := { program := "ytmjccpfchhnfhaagreat", sum := "d61bed569e1180080c94c842430438f4f1ffdb57d2099b172973c7f7d7177ae4", func := "pursuivant/pursuivantlaw12.FollowHears", spec := "followHears", unfollowed := true, recurses := true, apart := false }
def FollowHearsSaid : Prop := followHearsRow.holds Tryz.pinned (OpenSpec.ofChange followHearsSpec)

/-- ITS FALSE NEIGHBOUR: 'it returns false'. Refute it at one input. -/
def followHearsWrong : ChangeSpec := { name := "followHears", fn := fun _ => fun
  | [d1, d2] => { results := [.lit (.bool false)], args := [d1, d2] }
  | _ => none }
def FollowHearsWrongFalsely : Prop := followHearsRow.holds Tryz.pinned (OpenSpec.ofChange followHearsWrong)

/-- 'pursuivantlaw12.FollowSends': WHATEVER THE INPUT: true; the input reads as it did. -/
def followSendsSpec : ChangeSpec := { name := "followSends", fn := fun _ => fun
  | [d1, d2, d3, d4] => { results := [.lit (.bool true)], args := [d1, d2, d3, d4] }
  | _ => none }
def followSendsRow : OpenClaim := { program := "ytmjccpfchhnfhaagreat", sum := "d61bed569e1180080c94c842430438f4f1ffdb57d2099b172973c7f7d7177ae4", func := "pursuivant/pursuivantlaw12.FollowSends", spec := "followSends", unfollowed := true, recurses := true, apart := false }
def FollowSendsSaid : Prop := followSendsRow.holds Tryz.pinned (OpenSpec.ofChange followSendsSpec)

/-- ITS FALSE NEIGHBOUR: 'it returns false'. Refute it at one input. -/
def followSendsWrong : ChangeSpec := { name := "followSends", fn := fun _ => fun
  | [d1, d2, d3, d4] => { results := [.lit (.bool false)], args := [d1, d2, d3, d4] }
  | _ => none }
def FollowSendsWrongFalsely : Prop := followSendsRow.holds Tryz.pinned (OpenSpec.ofChange followSendsWrong)

/-- 'pursuivantlaw13.RaftPlays': WHATEVER THE INPUT: true; the input reads as it did. -/
def raftPlaysSpec : ChangeSpec := { name := "raftPlays", fn := fun _ => fun
  | [d1, d2] => { results := [.lit (.bool true)], args := [d1, d2] }
  | _ => none }
def raftPlaysRow : OpenClaim := { program := "ytmjccpfchhnfhaagreat", sum := "d61bed569e1180080c94c842430438f4f1ffdb57d2099b172973c7f7d7177ae4", func := "pursuivant/pursuivantlaw13.RaftPlays", spec := "raftPlays", unfollowed := true, recurses := true, apart := false }
def RaftPlaysSaid : Prop := raftPlaysRow.holds Tryz.pinned (OpenSpec.ofChange raftPlaysSpec)

/-- ITS FALSE NEIGHBOUR: 'it returns false'. Refute it at one input. -/
def raftPlaysWrong : ChangeSpec := { name := "raftPlays", fn := fun _ => fun
  | [d1, d2] => { results := [.lit (.bool false)], args := [d1, d2] }
  | _ => none }
def RaftPlaysWrongFalsely : Prop := raftPlaysRow.holds Tryz.pinned (OpenSpec.ofChange raftPlaysWrong)

/-- 'pursuivantlaw13.RaftSteps': WHATEVER THE INPUT: true; the input reads as it did. -/
def raftStepsSpec : ChangeSpec := { name := "raftSteps", fn := fun _ => fun
  | [d1, d2, d3, d4, d5, d6] => { results := [.lit (.bool true)], args := [d1, d2, d3, d4, d5, d6] }
  | _ => none }
def raftStepsRow : OpenClaim := { program := "ytmjccpfchhnfhaagreat", sum := "d61bed569e1180080c94c842430438f4f1ffdb57d2099b172973c7f7d7177ae4", func := "pursuivant/pursuivantlaw13.RaftSteps", spec := "raftSteps", unfollowed := true, recurses := true, apart := false }
def RaftStepsSaid : Prop := raftStepsRow.holds Tryz.pinned (OpenSpec.ofChange raftStepsSpec)

/-- ITS FALSE NEIGHBOUR: 'it returns false'. Refute it at one input. -/
def raftStepsWrong : ChangeSpec := { name := "raftSteps", fn := fun _ => fun
  | [d1, d2, d3, d4, d5, d6] => { results := [.lit (.bool false)], args := [d1, d2, d3, d4, d5, d6] }
  | _ => none }
def RaftStepsWrongFalsely : Prop := raftStepsRow.holds Tryz.pinned (OpenSpec.ofChange raftStepsWrong)

/- THE SECOND FORM. 'bulk': how many values and letters a reading holds, each counted each time it is reached (what is shared counts as often as it is met; a slice's spare places count too). A statement '..UptoSaid' is the law's where the arguments, and the package variables that the reading takes, are together of bulk at most 1048576: NARROWER than '..Said'. Prove '..Said' where nothing that the law and all that it calls make is longer than what came in: it says more and counts as full. Else prove '..UptoSaid'. A law counts once. -/
mutual
def uptoBulk {H : Type} : DataW H → Nat
  | .lit (.string bytes) => bytes.length + 1
  | .lit _ => 1
  | .nil => 1
  | .ptr d => uptoBulk d + 1
  | .slice elems spare => uptoBulkAll elems + uptoBulkAll spare + 1
  | .agg parts => uptoBulkAll parts + 1
  | .iface _ d => uptoBulk d + 1
  | .map entries => uptoBulkEntries entries + 1
  | .held _ => 1
def uptoBulkAll {H : Type} : List (DataW H) → Nat
  | [] => 0
  | d :: r => uptoBulk d + uptoBulkAll r
def uptoBulkEntries {H : Type} : List (Lit × DataW H) → Nat
  | [] => 0
  | x :: r => uptoBulkEntry x + uptoBulkEntries r
def uptoBulkEntry {H : Type} : Lit × DataW H → Nat
  | (.string bytes, d) => bytes.length + uptoBulk d + 1
  | (_, d) => uptoBulk d + 1
 end
def uptoSmall : (H : Type) → List (DataW H) → Bool := fun _ ds => decide (uptoBulkAll ds ≤ 1048576)
def OpenSpec.upto (s : _root_.Go.ChangeSpec) : _root_.Go.OpenSpec := { _root_.Go.OpenSpec.ofChange s with cond := some uptoSmall }

/-- 'pursuivantlaw12.FollowHears', WHERE WHAT IT READS IS OF BULK AT MOST 1048576: true; the input reads as it did. -/
def followHearsUptoRow : OpenClaim := { program := "ytmjccpfchhnfhaagreat", sum := "d61bed569e1180080c94c842430438f4f1ffdb57d2099b172973c7f7d7177ae4", func := "pursuivant/pursuivantlaw12.FollowHears", spec := "followHears", unfollowed := true, recurses := true, apart := false, narrowed := true }
def FollowHearsUptoSaid : Prop := followHearsUptoRow.holds Tryz.pinned (OpenSpec.upto followHearsSpec)

/-- 'pursuivantlaw12.FollowSends', WHERE WHAT IT READS IS OF BULK AT MOST 1048576: true; the input reads as it did. -/
def followSendsUptoRow : OpenClaim := { program := "ytmjccpfchhnfhaagreat", sum := "d61bed569e1180080c94c842430438f4f1ffdb57d2099b172973c7f7d7177ae4", func := "pursuivant/pursuivantlaw12.FollowSends", spec := "followSends", unfollowed := true, recurses := true, apart := false, narrowed := true }
def FollowSendsUptoSaid : Prop := followSendsUptoRow.holds Tryz.pinned (OpenSpec.upto followSendsSpec)

/-- 'pursuivantlaw13.RaftPlays', WHERE WHAT IT READS IS OF BULK AT MOST 1048576: true; the input reads as it did. -/
def raftPlaysUptoRow : OpenClaim := { program := "ytmjccpfchhnfhaagreat", sum := "d61bed569e1180080c94c842430438f4f1ffdb57d2099b172973c7f7d7177ae4", func := "pursuivant/pursuivantlaw13.RaftPlays", spec := "raftPlays", unfollowed := true, recurses := true, apart := false, narrowed := true }
def RaftPlaysUptoSaid : Prop := raftPlaysUptoRow.holds Tryz.pinned (OpenSpec.upto raftPlaysSpec)

/-- 'pursuivantlaw13.RaftSteps', WHERE WHAT IT READS IS OF BULK AT MOST 1048576: true; the input reads as it did. -/
def raftStepsUptoRow : OpenClaim := { program := "ytmjccpfchhnfhaagreat", sum := "d61bed569e1180080c94c842430438f4f1ffdb57d2099b172973c7f7d7177ae4", func := "pursuivant/pursuivantlaw13.RaftSteps", spec := "raftSteps", unfollowed := true, recurses := true, apart := false, narrowed := true }
def RaftStepsUptoSaid : Prop := raftStepsUptoRow.holds Tryz.pinned (OpenSpec.upto raftStepsSpec)

end Rows
end Go.Proofs.YtmjccpfchhnfhaaGreat
