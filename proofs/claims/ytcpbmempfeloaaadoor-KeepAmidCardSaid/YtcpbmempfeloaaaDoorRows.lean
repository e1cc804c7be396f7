/-
  NARROWER THAN 'FOR EVERY INPUT', by the rows' own cells (each row's printed sentence says how): JournalGaps: laid · JournalLost: laid · JournalAgain: laid · JournalAmid: laid · JournalPlays: laid · KeepBack: laid · KeepRefused: laid · KeepAmid: laid.
  DERIVED. THE GIVEN ROWS OF THIS SEAT. 8 by the template 'for every input the law returns true; each argument reads behind the call as it read before'; 0 by the template 'total and deterministic' (their statements: YtcpbmempfeloaaaDoorTotals.lean).
  GIVEN WITH THE SEED: the statements are not yours to turn. If you find one false, say at which input.
  Laid BY PROGRAM, IN A SANDBOX (cutbox-rows.mjs): the forced cells as the released guide's own fill.sh prints them over the translation ea8b46521ac22b7a… (all of the seat's roots in one cut). By AI agents, Wed Nov 11 2026. No macro, syntax, notation, axiom, sorry.
-/
import Derived.Test.YtcpbmempfeloaaaDoorChecked
import GoSem.Claim
import GoSem.ClaimJoined
import GoSem.ClaimMapViews
import Derived.JoinedTies
import Derived.KernelRfl
namespace Go.Proofs.YtcpbmempfeloaaaDoor
/- THE CELL 'sum', in the pinned program and in every row, IS THE sha256 OF THE DUMP (.gsa) THAT YtcpbmempfeloaaaDoorProg.lean LOADS. Nothing in Lean hashes anything: it is a label: what it is worth is what the hold of that sum in a sandbox is worth. -/
noncomputable def Tryd.pinned : Pinned := { name := "ytcpbmempfeloaaadoor", sum := "ea8b46521ac22b7aec1538ef8c32fb5ffd64965e80c6dd9de106f584148ba70d", checked := Tryd.checked }
namespace Rows
def none {H : Type} : Left H := { results := [], args := [] }

/- WHAT THE LISTED PACKAGE-LEVEL VARIABLES READ AS WHEN THE CALL BEGINS. Each datum BY PROGRAM (the guide's laid-datum.mjs) off the statement by which the dump's own 'gosem.cut.vars' lays the variable. In a bare row this is a premise. The card (YtcpbmempfeloaaaDoorCards.lean) ties it to the program's text. -/
def laid_pursuivant_check_table {H : Type} : DataW H := .agg [.lit (.int .u32 0), .lit (.int .u32 498536548), .lit (.int .u32 997073096), .lit (.int .u32 651767980), .lit (.int .u32 1994146192), .lit (.int .u32 1802195444), .lit (.int .u32 1303535960), .lit (.int .u32 1342533948), .lit (.int .u32 3988292384), .lit (.int .u32 4027552580), .lit (.int .u32 3604390888), .lit (.int .u32 3412177804), .lit (.int .u32 2607071920), .lit (.int .u32 2262029012), .lit (.int .u32 2685067896), .lit (.int .u32 3183342108)]

/-- 'pursuivantlaw06.JournalGaps': WHATEVER THE INPUT: true; the input reads as it did. -/
def journalGapsSpec : ChangeSpec := { name := "journalGaps", fn := fun _ => fun
  | [d1, d2, d3, d4] => { results := [.lit (.bool true)], args := [d1, d2, d3, d4] }
  | _ => none }
def journalGapsRow : OpenClaim := { program := "ytcpbmempfeloaaadoor", sum := "ea8b46521ac22b7aec1538ef8c32fb5ffd64965e80c6dd9de106f584148ba70d", func := "pursuivant/pursuivantlaw06.JournalGaps", spec := "journalGaps", unfollowed := true, recurses := true, named := ["pursuivant/check.table"], apart := false, laid := [("pursuivant/check.table", laid_pursuivant_check_table)] }
def JournalGapsSaid : Prop := journalGapsRow.holds Tryd.pinned (OpenSpec.ofChange journalGapsSpec)

/-- ITS FALSE NEIGHBOUR: 'it returns false'. Refute it at one input. -/
def journalGapsWrong : ChangeSpec := { name := "journalGaps", fn := fun _ => fun
  | [d1, d2, d3, d4] => { results := [.lit (.bool false)], args := [d1, d2, d3, d4] }
  | _ => none }
def JournalGapsWrongFalsely : Prop := journalGapsRow.holds Tryd.pinned (OpenSpec.ofChange journalGapsWrong)

/-- 'pursuivantlaw06.JournalLost': WHATEVER THE INPUT: true; the input reads as it did. -/
def journalLostSpec : ChangeSpec := { name := "journalLost", fn := fun _ => fun
  | [d1, d2, d3, d4, d5, d6] => { results := [.lit (.bool true)], args := [d1, d2, d3, d4, d5, d6] }
  | _ => none }
def journalLostRow : OpenClaim := { program := "ytcpbmempfeloaaadoor", sum := "ea8b46521ac22b7aec1538ef8c32fb5ffd64965e80c6dd9de106f584148ba70d", func := "pursuivant/pursuivantlaw06.JournalLost", spec := "journalLost", unfollowed := true, recurses := true, named := ["pursuivant/check.table"], apart := false, laid := [("pursuivant/check.table", laid_pursuivant_check_table)] }
def JournalLostSaid : Prop := journalLostRow.holds Tryd.pinned (OpenSpec.ofChange journalLostSpec)

/-- ITS FALSE NEIGHBOUR: 'it returns false'. Refute it at one input. -/
def journalLostWrong : ChangeSpec := { name := "journalLost", fn := fun _ => fun
  | [d1, d2, d3, d4, d5, d6] => { results := [.lit (.bool false)], args := [d1, d2, d3, d4, d5, d6] }
  | _ => none }
def JournalLostWrongFalsely : Prop := journalLostRow.holds Tryd.pinned (OpenSpec.ofChange journalLostWrong)

/-- 'pursuivantlaw06.JournalAgain': WHATEVER THE INPUT: true; the input reads as it did. -/
def journalAgainSpec : ChangeSpec := { name := "journalAgain", fn := fun _ => fun
  | [d1, d2, d3] => { results := [.lit (.bool true)], args := [d1, d2, d3] }
  | _ => none }
def journalAgainRow : OpenClaim := { program := "ytcpbmempfeloaaadoor", sum := "ea8b46521ac22b7aec1538ef8c32fb5ffd64965e80c6dd9de106f584148ba70d", func := "pursuivant/pursuivantlaw06.JournalAgain", spec := "journalAgain", unfollowed := true, recurses := true, named := ["pursuivant/check.table"], apart := false, laid := [("pursuivant/check.table", laid_pursuivant_check_table)] }
def JournalAgainSaid : Prop := journalAgainRow.holds Tryd.pinned (OpenSpec.ofChange journalAgainSpec)

/-- ITS FALSE NEIGHBOUR: 'it returns false'. Refute it at one input. -/
def journalAgainWrong : ChangeSpec := { name := "journalAgain", fn := fun _ => fun
  | [d1, d2, d3] => { results := [.lit (.bool false)], args := [d1, d2, d3] }
  | _ => none }
def JournalAgainWrongFalsely : Prop := journalAgainRow.holds Tryd.pinned (OpenSpec.ofChange journalAgainWrong)

/-- 'pursuivantlaw06.JournalAmid': WHATEVER THE INPUT: true; the input reads as it did. -/
def journalAmidSpec : ChangeSpec := { name := "journalAmid", fn := fun _ => fun
  | [d1, d2, d3, d4, d5] => { results := [.lit (.bool true)], args := [d1, d2, d3, d4, d5] }
  | _ => none }
def journalAmidRow : OpenClaim := { program := "ytcpbmempfeloaaadoor", sum := "ea8b46521ac22b7aec1538ef8c32fb5ffd64965e80c6dd9de106f584148ba70d", func := "pursuivant/pursuivantlaw06.JournalAmid", spec := "journalAmid", unfollowed := true, recurses := true, named := ["pursuivant/check.table"], apart := false, laid := [("pursuivant/check.table", laid_pursuivant_check_table)] }
def JournalAmidSaid : Prop := journalAmidRow.holds Tryd.pinned (OpenSpec.ofChange journalAmidSpec)

/-- ITS FALSE NEIGHBOUR: 'it returns false'. Refute it at one input. -/
def journalAmidWrong : ChangeSpec := { name := "journalAmid", fn := fun _ => fun
  | [d1, d2, d3, d4, d5] => { results := [.lit (.bool false)], args := [d1, d2, d3, d4, d5] }
  | _ => none }
def JournalAmidWrongFalsely : Prop := journalAmidRow.holds Tryd.pinned (OpenSpec.ofChange journalAmidWrong)

/-- 'pursuivantlaw06.JournalPlays': WHATEVER THE INPUT: true; the input reads as it did. -/
def journalPlaysSpec : ChangeSpec := { name := "journalPlays", fn := fun _ => fun
  | [d1, d2, d3] => { results := [.lit (.bool true)], args := [d1, d2, d3] }
  | _ => none }
def journalPlaysRow : OpenClaim := { program := "ytcpbmempfeloaaadoor", sum := "ea8b46521ac22b7aec1538ef8c32fb5ffd64965e80c6dd9de106f584148ba70d", func := "pursuivant/pursuivantlaw06.JournalPlays", spec := "journalPlays", unfollowed := true, recurses := true, named := ["pursuivant/check.table"], apart := false, laid := [("pursuivant/check.table", laid_pursuivant_check_table)] }
def JournalPlaysSaid : Prop := journalPlaysRow.holds Tryd.pinned (OpenSpec.ofChange journalPlaysSpec)

/-- ITS FALSE NEIGHBOUR: 'it returns false'. Refute it at one input. -/
def journalPlaysWrong : ChangeSpec := { name := "journalPlays", fn := fun _ => fun
  | [d1, d2, d3] => { results := [.lit (.bool false)], args := [d1, d2, d3] }
  | _ => none }
def JournalPlaysWrongFalsely : Prop := journalPlaysRow.holds Tryd.pinned (OpenSpec.ofChange journalPlaysWrong)

/-- 'pursuivantlaw14.KeepBack': WHATEVER THE INPUT: true; the input reads as it did. -/
def keepBackSpec : ChangeSpec := { name := "keepBack", fn := fun _ => fun
  | [d1, d2, d3] => { results := [.lit (.bool true)], args := [d1, d2, d3] }
  | _ => none }
def keepBackRow : OpenClaim := { program := "ytcpbmempfeloaaadoor", sum := "ea8b46521ac22b7aec1538ef8c32fb5ffd64965e80c6dd9de106f584148ba70d", func := "pursuivant/pursuivantlaw14.KeepBack", spec := "keepBack", unfollowed := true, recurses := true, named := ["pursuivant/check.table"], apart := false, laid := [("pursuivant/check.table", laid_pursuivant_check_table)] }
def KeepBackSaid : Prop := keepBackRow.holds Tryd.pinned (OpenSpec.ofChange keepBackSpec)

/-- ITS FALSE NEIGHBOUR: 'it returns false'. Refute it at one input. -/
def keepBackWrong : ChangeSpec := { name := "keepBack", fn := fun _ => fun
  | [d1, d2, d3] => { results := [.lit (.bool false)], args := [d1, d2, d3] }
  | _ => none }
def KeepBackWrongFalsely : Prop := keepBackRow.holds Tryd.pinned (OpenSpec.ofChange keepBackWrong)

/-- 'pursuivantlaw14.KeepRefused': WHATEVER THE INPUT: true; the input reads as it did. -/
def keepRefusedSpec : ChangeSpec := { name := "keepRefused", fn := fun _ => fun
  | [d1, d2, d3] => { results := [.lit (.bool true)], args := [d1, d2, d3] }
  | _ => none }
def keepRefusedRow : OpenClaim := { program := "ytcpbmempfeloaaadoor", sum := "ea8b46521ac22b7aec1538ef8c32fb5ffd64965e80c6dd9de106f584148ba70d", func := "pursuivant/pursuivantlaw14.KeepRefused", spec := "keepRefused", unfollowed := true, recurses := true, named := ["pursuivant/check.table"], apart := false, laid := [("pursuivant/check.table", laid_pursuivant_check_table)] }
def KeepRefusedSaid : Prop := keepRefusedRow.holds Tryd.pinned (OpenSpec.ofChange keepRefusedSpec)

/-- ITS FALSE NEIGHBOUR: 'it returns false'. Refute it at one input. -/
def keepRefusedWrong : ChangeSpec := { name := "keepRefused", fn := fun _ => fun
  | [d1, d2, d3] => { results := [.lit (.bool false)], args := [d1, d2, d3] }
  | _ => none }
def KeepRefusedWrongFalsely : Prop := keepRefusedRow.holds Tryd.pinned (OpenSpec.ofChange keepRefusedWrong)

/-- 'pursuivantlaw14.KeepAmid': WHATEVER THE INPUT: true; the input reads as it did. -/
def keepAmidSpec : ChangeSpec := { name := "keepAmid", fn := fun _ => fun
  | [d1, d2, d3, d4] => { results := [.lit (.bool true)], args := [d1, d2, d3, d4] }
  | _ => none }
def keepAmidRow : OpenClaim := { program := "ytcpbmempfeloaaadoor", sum := "ea8b46521ac22b7aec1538ef8c32fb5ffd64965e80c6dd9de106f584148ba70d", func := "pursuivant/pursuivantlaw14.KeepAmid", spec := "keepAmid", unfollowed := true, recurses := true, named := ["pursuivant/check.table"], apart := false, laid := [("pursuivant/check.table", laid_pursuivant_check_table)] }
def KeepAmidSaid : Prop := keepAmidRow.holds Tryd.pinned (OpenSpec.ofChange keepAmidSpec)

/-- ITS FALSE NEIGHBOUR: 'it returns false'. Refute it at one input. -/
def keepAmidWrong : ChangeSpec := { name := "keepAmid", fn := fun _ => fun
  | [d1, d2, d3, d4] => { results := [.lit (.bool false)], args := [d1, d2, d3, d4] }
  | _ => none }
def KeepAmidWrongFalsely : Prop := keepAmidRow.holds Tryd.pinned (OpenSpec.ofChange keepAmidWrong)

/- THE SECOND FORM. 'bulk': how many values and letters a reading holds, each counted each time it is reached (what is shared counts as often as it is met; a slice's spare places count too). A statement '..UptoSaid' is the law's where the arguments, and the package variables that the reading takes, are together of bulk at most 1048576: NARROWER than '..Said'. Prove '..Said' where nothing that the law and all that it calls make is longer than what came in: it says more and counts as full. Else prove '..UptoSaid'. A law counts once. -/
mutual
def uptoBulk {H : Type} : DataW H → Nat
  | .lit (.string bytes) => bytes.length + 1
  | .lit _ => 1
  | .nil => 1
  | .ptr d => uptoBulk d + 1
  | .slice elems spare => uptoBulkAll elems + uptoBulkAll spare + 1
  | .agg parts => uptoBulkAll parts + 1
  | .iface _ d => uptoBulk d + 1
  | .map entries => uptoBulkEntries entries + 1
  | .held _ => 1
def uptoBulkAll {H : Type} : List (DataW H) → Nat
  | [] => 0
  | d :: r => uptoBulk d + uptoBulkAll r
def uptoBulkEntries {H : Type} : List (Lit × DataW H) → Nat
  | [] => 0
  | x :: r => uptoBulkEntry x + uptoBulkEntries r
def uptoBulkEntry {H : Type} : Lit × DataW H → Nat
  | (.string bytes, d) => bytes.length + uptoBulk d + 1
  | (_, d) => uptoBulk d + 1
 end
def uptoSmall : (H : Type) → List (DataW H) → Bool := fun _ ds => decide (uptoBulkAll ds ≤ 1048576)
def OpenSpec.upto (s : _root_.Go.ChangeSpec) : _root_.Go.OpenSpec := { _root_.Go.OpenSpec.ofChange s with cond := some uptoSmall }

/-- 'pursuivantlaw06.JournalGaps', WHERE WHAT IT READS IS OF BULK AT MOST 1048576: true; the input reads as it did. -/
def journalGapsUptoRow : OpenClaim := { program := "ytcpbmempfeloaaadoor", sum := "ea8b46521ac22b7aec1538ef8c32fb5ffd64965e80c6dd9de106f584148ba70d", func := "pursuivant/pursuivantlaw06.JournalGaps", spec := "journalGaps", unfollowed := true, recurses := true, named := ["pursuivant/check.table"], apart := false, laid := [("pursuivant/check.table", laid_pursuivant_check_table)], narrowed := true }
def JournalGapsUptoSaid : Prop := journalGapsUptoRow.holds Tryd.pinned (OpenSpec.upto journalGapsSpec)

/-- 'pursuivantlaw06.JournalLost', WHERE WHAT IT READS IS OF BULK AT MOST 1048576: true; the input reads as it did. -/
def journalLostUptoRow : OpenClaim := { program := "ytcpbmempfeloaaadoor", sum := "ea8b46521ac22b7aec1538ef8c32fb5ffd64965e80c6dd9de106f584148ba70d", func := "pursuivant/pursuivantlaw06.JournalLost", spec := "journalLost", unfollowed := true, recurses := true, named := ["pursuivant/check.table"], apart := false, laid := [("pursuivant/check.table", laid_pursuivant_check_table)], narrowed := true }
def JournalLostUptoSaid : Prop := journalLostUptoRow.holds Tryd.pinned (OpenSpec.upto journalLostSpec)

/-- 'pursuivantlaw06.JournalAgain', WHERE WHAT IT READS IS OF BULK AT MOST 1048576: true; the input reads as it did. -/
def journalAgainUptoRow : OpenClaim := { program := "ytcpbmempfeloaaadoor", sum := "ea8b46521ac22b7aec1538ef8c32fb5ffd64965e80c6dd9de106f584148ba70d", func := "pursuivant/pursuivantlaw06.JournalAgain", spec := "journalAgain", unfollowed := true, recurses := true, named := ["pursuivant/check.table"], apart := false, laid := [("pursuivant/check.table", laid_pursuivant_check_table)], narrowed := true }
def JournalAgainUptoSaid : Prop := journalAgainUptoRow.holds Tryd.pinned (OpenSpec.upto journalAgainSpec)

/-- 'pursuivantlaw06.JournalAmid', WHERE WHAT IT READS IS OF BULK AT MOST 1048576: true; the input reads as it did. -/
def journalAmidUptoRow : OpenClaim := { program := "ytcpbmempfeloaaadoor", sum := "ea8b46521ac22b7aec1538ef8c32fb5ffd64965e80c6dd9de106f584148ba70d", func := "pursuivant/pursuivantlaw06.JournalAmid", spec := "journalAmid", unfollowed := true, recurses := true, named := ["pursuivant/check.table"], apart := false, laid := [("pursuivant/check.table", laid_pursuivant_check_table)], narrowed := true }
def JournalAmidUptoSaid : Prop := journalAmidUptoRow.holds Tryd.pinned (OpenSpec.upto journalAmidSpec)

/-- 'pursuivantlaw06.JournalPlays', WHERE WHAT IT READS IS OF BULK AT MOST 1048576: true; the input reads as it did. -/
def journalPlaysUptoRow : OpenClaim := { program := "ytcpbmempfeloaaadoor", sum := "ea8b46521ac22b7aec1538ef8c32fb5ffd64965e80c6dd9de106f584148ba70d", func := "pursuivant/pursuivantlaw06.JournalPlays", spec := "journalPlays", unfollowed := true, recurses := true, named := ["pursuivant/check.table"], apart := false, laid := [("pursuivant/check.table", laid_pursuivant_check_table)], narrowed := true }
def JournalPlaysUptoSaid : Prop := journalPlaysUptoRow.holds Tryd.pinned (OpenSpec.upto journalPlaysSpec)

/-- 'pursuivantlaw14.KeepBack', WHERE WHAT IT READS IS OF BULK AT MOST 1048576: true; the input reads as it did. -/
def keepBackUptoRow : OpenClaim := { program := "ytcpbmempfeloaaadoor", sum := "ea8b46521ac22b7aec1538ef8c32fb5ffd64965e80c6dd9de106f584148ba70d", func := "pursuivant/pursuivantlaw14.KeepBack", spec := "keepBack", unfollowed := true, recurses := true, named := ["pursuivant/check.table"], apart := false, laid := [("pursuivant/check.table", laid_pursuivant_check_table)], narrowed := true }
def KeepBackUptoSaid : Prop := keepBackUptoRow.holds Tryd.pinned (OpenSpec.upto keepBackSpec)

/-- 'pursuivantlaw14.KeepRefused', WHERE WHAT IT READS IS OF BULK AT MOST 1048576: true; the input reads as it did. -/
def keepRefusedUptoRow : OpenClaim := { program := "ytcpbmempfeloaaadoor", sum := "ea8b46521ac22b7aec1538ef8c32fb5ffd64965e80c6dd9de106f584148ba70d", func := "pursuivant/pursuivantlaw14.KeepRefused", spec := "keepRefused", unfollowed := true, recurses := true, named := ["pursuivant/check.table"], apart := false, laid := [("pursuivant/check.table", laid_pursuivant_check_table)], narrowed := true }
def KeepRefusedUptoSaid : Prop := keepRefusedUptoRow.holds Tryd.pinned (OpenSpec.upto keepRefusedSpec)

/-- 'pursuivantlaw14.KeepAmid', WHERE WHAT IT READS IS OF BULK AT MOST 1048576: true; the input reads as it did. -/
def keepAmidUptoRow : OpenClaim := { program := "ytcpbmempfeloaaadoor", sum := "ea8b46521ac22b7aec1538ef8c32fb5ffd64965e80c6dd9de106f584148ba70d", func := "pursuivant/pursuivantlaw14.KeepAmid", spec := "keepAmid", unfollowed := true, recurses := true, named := ["pursuivant/check.table"], apart := false, laid := [("pursuivant/check.table", laid_pursuivant_check_table)], narrowed := true }
def KeepAmidUptoSaid : Prop := keepAmidUptoRow.holds Tryd.pinned (OpenSpec.upto keepAmidSpec)

end Rows
end Go.Proofs.YtcpbmempfeloaaaDoor
