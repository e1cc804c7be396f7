/-
  NARROWER THAN 'FOR EVERY INPUT', by the rows' own cells (each row's printed sentence says how): SlotStamps: laid · SlotTorn: laid · SlotEither: laid · SlotSaved: laid · SlotAmid: laid · SlotPlays: laid · VaultBack: laid · VaultAmid: laid · VaultRefused: laid.
  DERIVED. THE GIVEN ROWS OF THIS SEAT. 9 by the template 'for every input the law returns true; each argument reads behind the call as it read before'; 0 by the template 'total and deterministic' (their statements: YtaeonlafcbgpcaaDoorTotals.lean).
  GIVEN WITH THE SEED: the statements are not yours to turn. If you find one false, say at which input.
  Laid BY PROGRAM, IN A SANDBOX (cutbox-rows.mjs): the forced cells as the released guide's own fill.sh prints them over the translation a1cfe625266b2883… (all of the seat's roots in one cut). By AI agents, Wed Nov 11 2026. No macro, syntax, notation, axiom, sorry.
-/
import Derived.Test.YtaeonlafcbgpcaaDoorChecked
import GoSem.Claim
import GoSem.ClaimJoined
import GoSem.ClaimMapViews
import Derived.JoinedTies
import Derived.KernelRfl
namespace Go.Proofs.YtaeonlafcbgpcaaDoor
/- THE CELL 'sum', in the pinned program and in every row, IS THE sha256 OF THE DUMP (.gsa) THAT YtaeonlafcbgpcaaDoorProg.lean LOADS. Nothing in Lean hashes anything: it is a label: what it is worth is what the hold of that sum in a sandbox is worth. -/
noncomputable def Tryd.pinned : Pinned := { name := "ytaeonlafcbgpcaadoor", sum := "a1cfe625266b2883123cce574edd61aef222fc3f00cdb32baec966f9183fc9c2", checked := Tryd.checked }
namespace Rows
def none {H : Type} : Left H := { results := [], args := [] }

/- WHAT THE LISTED PACKAGE-LEVEL VARIABLES READ AS WHEN THE CALL BEGINS. Each datum BY PROGRAM (the guide's laid-datum.mjs) off the statement by which the dump's own 'gosem.cut.vars' lays the variable. In a bare row this is a premise. The card (YtaeonlafcbgpcaaDoorCards.lean) ties it to the program's text. -/
def laid_pursuivant_check_table {H : Type} : DataW H := .agg [.lit (.int .u32 0), .lit (.int .u32 498536548), .lit (.int .u32 997073096), .lit (.int .u32 651767980), .lit (.int .u32 1994146192), .lit (.int .u32 1802195444), .lit (.int .u32 1303535960), .lit (.int .u32 1342533948), .lit (.int .u32 3988292384), .lit (.int .u32 4027552580), .lit (.int .u32 3604390888), .lit (.int .u32 3412177804), .lit (.int .u32 2607071920), .lit (.int .u32 2262029012), .lit (.int .u32 2685067896), .lit (.int .u32 3183342108)]

/-- 'pursuivantlaw05.SlotStamps': WHATEVER THE INPUT: true; the input reads as it did. -/
def slotStampsSpec : ChangeSpec := { name := "slotStamps", fn := fun _ => fun
  | [d1, d2, d3, d4] => { results := [.lit (.bool true)], args := [d1, d2, d3, d4] }
  | _ => none }
def slotStampsRow : OpenClaim := { program := "ytaeonlafcbgpcaadoor", sum := "a1cfe625266b2883123cce574edd61aef222fc3f00cdb32baec966f9183fc9c2", func := "pursuivant/pursuivantlaw05.SlotStamps", spec := "slotStamps", unfollowed := true, recurses := true, named := ["pursuivant/check.table"], apart := false, laid := [("pursuivant/check.table", laid_pursuivant_check_table)] }
def SlotStampsSaid : Prop := slotStampsRow.holds Tryd.pinned (OpenSpec.ofChange slotStampsSpec)

/-- ITS FALSE NEIGHBOUR: 'it returns false'. Refute it at one input. -/
def slotStampsWrong : ChangeSpec := { name := "slotStamps", fn := fun _ => fun
  | [d1, d2, d3, d4] => { results := [.lit (.bool false)], args := [d1, d2, d3, d4] }
  | _ => none }
def SlotStampsWrongFalsely : Prop := slotStampsRow.holds Tryd.pinned (OpenSpec.ofChange slotStampsWrong)

/-- 'pursuivantlaw05.SlotTorn': WHATEVER THE INPUT: true; the input reads as it did. -/
def slotTornSpec : ChangeSpec := { name := "slotTorn", fn := fun _ => fun
  | [d1, d2, d3, d4, d5] => { results := [.lit (.bool true)], args := [d1, d2, d3, d4, d5] }
  | _ => none }
def slotTornRow : OpenClaim := { program := "ytaeonlafcbgpcaadoor", sum := "a1cfe625266b2883123cce574edd61aef222fc3f00cdb32baec966f9183fc9c2", func := "pursuivant/pursuivantlaw05.SlotTorn", spec := "slotTorn", unfollowed := true, recurses := true, named := ["pursuivant/check.table"], apart := false, laid := [("pursuivant/check.table", laid_pursuivant_check_table)] }
def SlotTornSaid : Prop := slotTornRow.holds Tryd.pinned (OpenSpec.ofChange slotTornSpec)

/-- ITS FALSE NEIGHBOUR: 'it returns false'. Refute it at one input. -/
def slotTornWrong : ChangeSpec := { name := "slotTorn", fn := fun _ => fun
  | [d1, d2, d3, d4, d5] => { results := [.lit (.bool false)], args := [d1, d2, d3, d4, d5] }
  | _ => none }
def SlotTornWrongFalsely : Prop := slotTornRow.holds Tryd.pinned (OpenSpec.ofChange slotTornWrong)

/-- 'pursuivantlaw05.SlotEither': WHATEVER THE INPUT: true; the input reads as it did. -/
def slotEitherSpec : ChangeSpec := { name := "slotEither", fn := fun _ => fun
  | [d1, d2, d3, d4] => { results := [.lit (.bool true)], args := [d1, d2, d3, d4] }
  | _ => none }
def slotEitherRow : OpenClaim := { program := "ytaeonlafcbgpcaadoor", sum := "a1cfe625266b2883123cce574edd61aef222fc3f00cdb32baec966f9183fc9c2", func := "pursuivant/pursuivantlaw05.SlotEither", spec := "slotEither", unfollowed := true, recurses := true, named := ["pursuivant/check.table"], apart := false, laid := [("pursuivant/check.table", laid_pursuivant_check_table)] }
def SlotEitherSaid : Prop := slotEitherRow.holds Tryd.pinned (OpenSpec.ofChange slotEitherSpec)

/-- ITS FALSE NEIGHBOUR: 'it returns false'. Refute it at one input. -/
def slotEitherWrong : ChangeSpec := { name := "slotEither", fn := fun _ => fun
  | [d1, d2, d3, d4] => { results := [.lit (.bool false)], args := [d1, d2, d3, d4] }
  | _ => none }
def SlotEitherWrongFalsely : Prop := slotEitherRow.holds Tryd.pinned (OpenSpec.ofChange slotEitherWrong)

/-- 'pursuivantlaw05.SlotSaved': WHATEVER THE INPUT: true; the input reads as it did. -/
def slotSavedSpec : ChangeSpec := { name := "slotSaved", fn := fun _ => fun
  | [d1, d2, d3, d4] => { results := [.lit (.bool true)], args := [d1, d2, d3, d4] }
  | _ => none }
def slotSavedRow : OpenClaim := { program := "ytaeonlafcbgpcaadoor", sum := "a1cfe625266b2883123cce574edd61aef222fc3f00cdb32baec966f9183fc9c2", func := "pursuivant/pursuivantlaw05.SlotSaved", spec := "slotSaved", unfollowed := true, recurses := true, named := ["pursuivant/check.table"], apart := false, laid := [("pursuivant/check.table", laid_pursuivant_check_table)] }
def SlotSavedSaid : Prop := slotSavedRow.holds Tryd.pinned (OpenSpec.ofChange slotSavedSpec)

/-- ITS FALSE NEIGHBOUR: 'it returns false'. Refute it at one input. -/
def slotSavedWrong : ChangeSpec := { name := "slotSaved", fn := fun _ => fun
  | [d1, d2, d3, d4] => { results := [.lit (.bool false)], args := [d1, d2, d3, d4] }
  | _ => none }
def SlotSavedWrongFalsely : Prop := slotSavedRow.holds Tryd.pinned (OpenSpec.ofChange slotSavedWrong)

/-- 'pursuivantlaw05.SlotAmid': WHATEVER THE INPUT: true; the input reads as it did. -/
def slotAmidSpec : ChangeSpec := { name := "slotAmid", fn := fun _ => fun
  | [d1, d2, d3, d4, d5] => { results := [.lit (.bool true)], args := [d1, d2, d3, d4, d5] }
  | _ => none }
def slotAmidRow : OpenClaim := { program := "ytaeonlafcbgpcaadoor", sum := "a1cfe625266b2883123cce574edd61aef222fc3f00cdb32baec966f9183fc9c2", func := "pursuivant/pursuivantlaw05.SlotAmid", spec := "slotAmid", unfollowed := true, recurses := true, named := ["pursuivant/check.table"], apart := false, laid := [("pursuivant/check.table", laid_pursuivant_check_table)] }
def SlotAmidSaid : Prop := slotAmidRow.holds Tryd.pinned (OpenSpec.ofChange slotAmidSpec)

/-- ITS FALSE NEIGHBOUR: 'it returns false'. Refute it at one input. -/
def slotAmidWrong : ChangeSpec := { name := "slotAmid", fn := fun _ => fun
  | [d1, d2, d3, d4, d5] => { results := [.lit (.bool false)], args := [d1, d2, d3, d4, d5] }
  | _ => none }
def SlotAmidWrongFalsely : Prop := slotAmidRow.holds Tryd.pinned (OpenSpec.ofChange slotAmidWrong)

/-- 'pursuivantlaw05.SlotPlays': WHATEVER THE INPUT: true; the input reads as it did. -/
def slotPlaysSpec : ChangeSpec := { name := "slotPlays", fn := fun _ => fun
  | [d1, d2] => { results := [.lit (.bool true)], args := [d1, d2] }
  | _ => none }
def slotPlaysRow : OpenClaim := { program := "ytaeonlafcbgpcaadoor", sum := "a1cfe625266b2883123cce574edd61aef222fc3f00cdb32baec966f9183fc9c2", func := "pursuivant/pursuivantlaw05.SlotPlays", spec := "slotPlays", unfollowed := true, recurses := true, named := ["pursuivant/check.table"], apart := false, laid := [("pursuivant/check.table", laid_pursuivant_check_table)] }
def SlotPlaysSaid : Prop := slotPlaysRow.holds Tryd.pinned (OpenSpec.ofChange slotPlaysSpec)

/-- ITS FALSE NEIGHBOUR: 'it returns false'. Refute it at one input. -/
def slotPlaysWrong : ChangeSpec := { name := "slotPlays", fn := fun _ => fun
  | [d1, d2] => { results := [.lit (.bool false)], args := [d1, d2] }
  | _ => none }
def SlotPlaysWrongFalsely : Prop := slotPlaysRow.holds Tryd.pinned (OpenSpec.ofChange slotPlaysWrong)

/-- 'pursuivantlaw18.VaultBack': WHATEVER THE INPUT: true; the input reads as it did. -/
def vaultBackSpec : ChangeSpec := { name := "vaultBack", fn := fun _ => fun
  | [d1, d2, d3] => { results := [.lit (.bool true)], args := [d1, d2, d3] }
  | _ => none }
def vaultBackRow : OpenClaim := { program := "ytaeonlafcbgpcaadoor", sum := "a1cfe625266b2883123cce574edd61aef222fc3f00cdb32baec966f9183fc9c2", func := "pursuivant/pursuivantlaw18.VaultBack", spec := "vaultBack", unfollowed := true, recurses := true, named := ["pursuivant/check.table"], apart := false, laid := [("pursuivant/check.table", laid_pursuivant_check_table)] }
def VaultBackSaid : Prop := vaultBackRow.holds Tryd.pinned (OpenSpec.ofChange vaultBackSpec)

/-- ITS FALSE NEIGHBOUR: 'it returns false'. Refute it at one input. -/
def vaultBackWrong : ChangeSpec := { name := "vaultBack", fn := fun _ => fun
  | [d1, d2, d3] => { results := [.lit (.bool false)], args := [d1, d2, d3] }
  | _ => none }
def VaultBackWrongFalsely : Prop := vaultBackRow.holds Tryd.pinned (OpenSpec.ofChange vaultBackWrong)

/-- 'pursuivantlaw18.VaultAmid': WHATEVER THE INPUT: true; the input reads as it did. -/
def vaultAmidSpec : ChangeSpec := { name := "vaultAmid", fn := fun _ => fun
  | [d1, d2, d3, d4] => { results := [.lit (.bool true)], args := [d1, d2, d3, d4] }
  | _ => none }
def vaultAmidRow : OpenClaim := { program := "ytaeonlafcbgpcaadoor", sum := "a1cfe625266b2883123cce574edd61aef222fc3f00cdb32baec966f9183fc9c2", func := "pursuivant/pursuivantlaw18.VaultAmid", spec := "vaultAmid", unfollowed := true, recurses := true, named := ["pursuivant/check.table"], apart := false, laid := [("pursuivant/check.table", laid_pursuivant_check_table)] }
def VaultAmidSaid : Prop := vaultAmidRow.holds Tryd.pinned (OpenSpec.ofChange vaultAmidSpec)

/-- ITS FALSE NEIGHBOUR: 'it returns false'. Refute it at one input. -/
def vaultAmidWrong : ChangeSpec := { name := "vaultAmid", fn := fun _ => fun
  | [d1, d2, d3, d4] => { results := [.lit (.bool false)], args := [d1, d2, d3, d4] }
  | _ => none }
def VaultAmidWrongFalsely : Prop := vaultAmidRow.holds Tryd.pinned (OpenSpec.ofChange vaultAmidWrong)

/-- 'pursuivantlaw18.VaultRefused': WHATEVER THE INPUT: true; the input reads as it did. -/
def vaultRefusedSpec : ChangeSpec := { name := "vaultRefused", fn := fun _ => fun
  | [d1, d2, d3, d4] => { results := [.lit (.bool true)], args := [d1, d2, d3, d4] }
  | _ => none }
def vaultRefusedRow : OpenClaim := { program := "ytaeonlafcbgpcaadoor", sum := "a1cfe625266b2883123cce574edd61aef222fc3f00cdb32baec966f9183fc9c2", func := "pursuivant/pursuivantlaw18.VaultRefused", spec := "vaultRefused", unfollowed := true, recurses := true, named := ["pursuivant/check.table"], apart := false, laid := [("pursuivant/check.table", laid_pursuivant_check_table)] }
def VaultRefusedSaid : Prop := vaultRefusedRow.holds Tryd.pinned (OpenSpec.ofChange vaultRefusedSpec)

/-- ITS FALSE NEIGHBOUR: 'it returns false'. Refute it at one input. -/
def vaultRefusedWrong : ChangeSpec := { name := "vaultRefused", fn := fun _ => fun
  | [d1, d2, d3, d4] => { results := [.lit (.bool false)], args := [d1, d2, d3, d4] }
  | _ => none }
def VaultRefusedWrongFalsely : Prop := vaultRefusedRow.holds Tryd.pinned (OpenSpec.ofChange vaultRefusedWrong)

/- THE SECOND FORM. 'bulk': how many values and letters a reading holds, each counted each time it is reached (what is shared counts as often as it is met; a slice's spare places count too). A statement '..UptoSaid' is the law's where the arguments, and the package variables that the reading takes, are together of bulk at most 1048576: NARROWER than '..Said'. Prove '..Said' where nothing that the law and all that it calls make is longer than what came in: it says more and counts as full. Else prove '..UptoSaid'. A law counts once. -/
mutual
def uptoBulk {H : Type} : DataW H → Nat
  | .lit (.string bytes) => bytes.length + 1
  | .lit _ => 1
  | .nil => 1
  | .ptr d => uptoBulk d + 1
  | .slice elems spare => uptoBulkAll elems + uptoBulkAll spare + 1
  | .agg parts => uptoBulkAll parts + 1
  | .iface _ d => uptoBulk d + 1
  | .map entries => uptoBulkEntries entries + 1
  | .held _ => 1
def uptoBulkAll {H : Type} : List (DataW H) → Nat
  | [] => 0
  | d :: r => uptoBulk d + uptoBulkAll r
def uptoBulkEntries {H : Type} : List (Lit × DataW H) → Nat
  | [] => 0
  | x :: r => uptoBulkEntry x + uptoBulkEntries r
def uptoBulkEntry {H : Type} : Lit × DataW H → Nat
  | (.string bytes, d) => bytes.length + uptoBulk d + 1
  | (_, d) => uptoBulk d + 1
 end
def uptoSmall : (H : Type) → List (DataW H) → Bool := fun _ ds => decide (uptoBulkAll ds ≤ 1048576)
def OpenSpec.upto (s : _root_.Go.ChangeSpec) : _root_.Go.OpenSpec := { _root_.Go.OpenSpec.ofChange s with cond := some uptoSmall }

/-- 'pursuivantlaw05.SlotStamps', WHERE WHAT IT READS IS OF BULK AT MOST 1048576: true; the input reads as it did. -/
def slotStampsUptoRow : OpenClaim := { program := "ytaeonlafcbgpcaadoor", sum := "a1cfe625266b2883123cce574edd61aef222fc3f00cdb32baec966f9183fc9c2", func := "pursuivant/pursuivantlaw05.SlotStamps", spec := "slotStamps", unfollowed := true, recurses := true, named := ["pursuivant/check.table"], apart := false, laid := [("pursuivant/check.table", laid_pursuivant_check_table)], narrowed := true }
def SlotStampsUptoSaid : Prop := slotStampsUptoRow.holds Tryd.pinned (OpenSpec.upto slotStampsSpec)

/-- 'pursuivantlaw05.SlotTorn', WHERE WHAT IT READS IS OF BULK AT MOST 1048576: true; the input reads as it did. -/
def slotTornUptoRow : OpenClaim := { program := "ytaeonlafcbgpcaadoor", sum := "a1cfe625266b2883123cce574edd61aef222fc3f00cdb32baec966f9183fc9c2", func := "pursuivant/pursuivantlaw05.SlotTorn", spec := "slotTorn", unfollowed := true, recurses := true, named := ["pursuivant/check.table"], apart := false, laid := [("pursuivant/check.table", laid_pursuivant_check_table)], narrowed := true }
def SlotTornUptoSaid : Prop := slotTornUptoRow.holds Tryd.pinned (OpenSpec.upto slotTornSpec)

/-- 'pursuivantlaw05.SlotEither', WHERE WHAT IT READS IS OF BULK AT MOST 1048576: true; the input reads as it did. -/
def slotEitherUptoRow : OpenClaim := { program := "ytaeonlafcbgpcaadoor", sum := "a1cfe625266b2883123cce574edd61aef222fc3f00cdb32baec966f9183fc9c2", func := "pursuivant/pursuivantlaw05.SlotEither", spec := "slotEither", unfollowed := true, recurses := true, named := ["pursuivant/check.table"], apart := false, laid := [("pursuivant/check.table", laid_pursuivant_check_table)], narrowed := true }
def SlotEitherUptoSaid : Prop := slotEitherUptoRow.holds Tryd.pinned (OpenSpec.upto slotEitherSpec)

/-- 'pursuivantlaw05.SlotSaved', WHERE WHAT IT READS IS OF BULK AT MOST 1048576: true; the input reads as it did. -/
def slotSavedUptoRow : OpenClaim := { program := "ytaeonlafcbgpcaadoor", sum := "a1cfe625266b2883123cce574edd61aef222fc3f00cdb32baec966f9183fc9c2", func := "pursuivant/pursuivantlaw05.SlotSaved", spec := "slotSaved", unfollowed := true, recurses := true, named := ["pursuivant/check.table"], apart := false, laid := [("pursuivant/check.table", laid_pursuivant_check_table)], narrowed := true }
def SlotSavedUptoSaid : Prop := slotSavedUptoRow.holds Tryd.pinned (OpenSpec.upto slotSavedSpec)

/-- 'pursuivantlaw05.SlotAmid', WHERE WHAT IT READS IS OF BULK AT MOST 1048576: true; the input reads as it did. -/
def slotAmidUptoRow : OpenClaim := { program := "ytaeonlafcbgpcaadoor", sum := "a1cfe625266b2883123cce574edd61aef222fc3f00cdb32baec966f9183fc9c2", func := "pursuivant/pursuivantlaw05.SlotAmid", spec := "slotAmid", unfollowed := true, recurses := true, named := ["pursuivant/check.table"], apart := false, laid := [("pursuivant/check.table", laid_pursuivant_check_table)], narrowed := true }
def SlotAmidUptoSaid : Prop := slotAmidUptoRow.holds Tryd.pinned (OpenSpec.upto slotAmidSpec)

/-- 'pursuivantlaw05.SlotPlays', WHERE WHAT IT READS IS OF BULK AT MOST 1048576: true; the input reads as it did. -/
def slotPlaysUptoRow : OpenClaim := { program := "ytaeonlafcbgpcaadoor", sum := "a1cfe625266b2883123cce574edd61aef222fc3f00cdb32baec966f9183fc9c2", func := "pursuivant/pursuivantlaw05.SlotPlays", spec := "slotPlays", unfollowed := true, recurses := true, named := ["pursuivant/check.table"], apart := false, laid := [("pursuivant/check.table", laid_pursuivant_check_table)], narrowed := true }
def SlotPlaysUptoSaid : Prop := slotPlaysUptoRow.holds Tryd.pinned (OpenSpec.upto slotPlaysSpec)

/-- 'pursuivantlaw18.VaultBack', WHERE WHAT IT READS IS OF BULK AT MOST 1048576: true; the input reads as it did. -/
def vaultBackUptoRow : OpenClaim := { program := "ytaeonlafcbgpcaadoor", sum := "a1cfe625266b2883123cce574edd61aef222fc3f00cdb32baec966f9183fc9c2", func := "pursuivant/pursuivantlaw18.VaultBack", spec := "vaultBack", unfollowed := true, recurses := true, named := ["pursuivant/check.table"], apart := false, laid := [("pursuivant/check.table", laid_pursuivant_check_table)], narrowed := true }
def VaultBackUptoSaid : Prop := vaultBackUptoRow.holds Tryd.pinned (OpenSpec.upto vaultBackSpec)

/-- 'pursuivantlaw18.VaultAmid', WHERE WHAT IT READS IS OF BULK AT MOST 1048576: true; the input reads as it did. -/
def vaultAmidUptoRow : OpenClaim := { program := "ytaeonlafcbgpcaadoor", sum := "a1cfe625266b2883123cce574edd61aef222fc3f00cdb32baec966f9183fc9c2", func := "pursuivant/pursuivantlaw18.VaultAmid", spec := "vaultAmid", unfollowed := true, recurses := true, named := ["pursuivant/check.table"], apart := false, laid := [("pursuivant/check.table", laid_pursuivant_check_table)], narrowed := true }
def VaultAmidUptoSaid : Prop := vaultAmidUptoRow.holds Tryd.pinned (OpenSpec.upto vaultAmidSpec)

/-- 'pursuivantlaw18.VaultRefused', WHERE WHAT IT READS IS OF BULK AT MOST 1048576: true; the input reads as it did. -/
def vaultRefusedUptoRow : OpenClaim := { program := "ytaeonlafcbgpcaadoor", sum := "a1cfe625266b2883123cce574edd61aef222fc3f00cdb32baec966f9183fc9c2", func := "pursuivant/pursuivantlaw18.VaultRefused", spec := "vaultRefused", unfollowed := true, recurses := true, named := ["pursuivant/check.table"], apart := false, laid := [("pursuivant/check.table", laid_pursuivant_check_table)], narrowed := true }
def VaultRefusedUptoSaid : Prop := vaultRefusedUptoRow.holds Tryd.pinned (OpenSpec.upto vaultRefusedSpec)

end Rows
end Go.Proofs.YtaeonlafcbgpcaaDoor
