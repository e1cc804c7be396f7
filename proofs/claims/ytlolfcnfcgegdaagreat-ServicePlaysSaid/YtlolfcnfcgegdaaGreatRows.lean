/-
  No cell of these rows narrows 'for every input' (looked for: loops, veiled, ifaces, maps, wideKeys, modest, calm, conditions, laid).
  DERIVED. THE GIVEN ROWS OF THIS SEAT. 3 by the template 'for every input the law returns true; each argument reads behind the call as it read before'; 0 by the template 'total and deterministic' (their statements: YtlolfcnfcgegdaaGreatTotals.lean).
  GIVEN WITH THE SEED: the statements are not yours to turn. If you find one false, say at which input.
  Laid BY PROGRAM, IN A SANDBOX (cutbox-rows.mjs): the forced cells as the released guide's own fill.sh prints them over the translation b74d9bcf21d0ec76… (all of the seat's roots in one cut). By AI agents, Wed Nov 11 2026. No macro, syntax, notation, axiom, sorry.
-/
import Derived.Test.YtlolfcnfcgegdaaGreatChecked
import GoSem.Claim
import GoSem.ClaimJoined
import GoSem.ClaimMapViews
import Derived.JoinedTies
import Derived.KernelRfl
namespace Go.Proofs.YtlolfcnfcgegdaaGreat
/- THE CELL 'sum', in the pinned program and in every row, IS THE sha256 OF THE DUMP (.gsa) THAT YtlolfcnfcgegdaaGreatProg.lean LOADS. Nothing in Lean hashes anything: it is a label: what it is worth is what the hold of that sum in a sandbox is worth. -/
noncomputable def Tryz.pinned : Pinned := { name := "ytlolfcnfcgegdaagreat", sum := "b74d9bcf21d0ec76f617a4c6fd0026c69a29d5d7a4fa3bf4b8c4783a223d41fb", checked := Tryz.checked }
namespace Rows
def none {H : Type} : Left H := { results := [], args := [] }

/-- 'pursuivantlaw20.ServicePlays': WHATEVER THE INPUT: true; the input reads as it did. -/
def servicePlaysSpec : ChangeSpec := { name := "servicePlays", fn := fun _ => fun
  | [d1, d2, d3] => { results := [.lit (.bool true)], args := [d1, d2, d3] }
  | _ => none }
def servicePlaysRow : OpenClaim := { program := "ytlolfcnfcgegdaagreat", sum := "b74d9bcf21d0ec76f617a4c6fd0026c69a29d5d7a4fa3bf4b8c4783a223d41fb", func := "pursuivant/pursuivantlaw20.ServicePlays", spec := "servicePlays", unfollowed := true, recurses := true, apart := false }
def ServicePlaysSaid : Prop := servicePlaysRow.holds Tryz.pinned (OpenSpec.ofChange servicePlaysSpec)

/-- ITS FALSE NEIGHBOUR: 'it returns false'. Refute it at one input. -/
def servicePlaysWrong : ChangeSpec := { name := "servicePlays", fn := fun _ => fun
  | [d1, d2, d3] => { results := [.lit (.bool false)], args := [d1, d2, d3] }
  | _ => none }
def ServicePlaysWrongFalsely : Prop := servicePlaysRow.holds Tryz.pinned (OpenSpec.ofChange servicePlaysWrong)

/-- 'pursuivantlaw20.ServiceUnpacks': WHATEVER THE INPUT: true; the input reads as it did. -/
def serviceUnpacksSpec : ChangeSpec := { name := "serviceUnpacks", fn := fun _ => fun
  | [d] => { results := [.lit (.bool true)], args := [d] }
  | _ => none }
def serviceUnpacksRow : OpenClaim := { program := "ytlolfcnfcgegdaagreat", sum := "b74d9bcf21d0ec76f617a4c6fd0026c69a29d5d7a4fa3bf4b8c4783a223d41fb", func := "pursuivant/pursuivantlaw20.ServiceUnpacks", spec := "serviceUnpacks", unfollowed := true, recurses := true, apart := false }
def ServiceUnpacksSaid : Prop := serviceUnpacksRow.holds Tryz.pinned (OpenSpec.ofChange serviceUnpacksSpec)

/-- ITS FALSE NEIGHBOUR: 'it returns false'. Refute it at one input. -/
def serviceUnpacksWrong : ChangeSpec := { name := "serviceUnpacks", fn := fun _ => fun
  | [d] => { results := [.lit (.bool false)], args := [d] }
  | _ => none }
def ServiceUnpacksWrongFalsely : Prop := serviceUnpacksRow.holds Tryz.pinned (OpenSpec.ofChange serviceUnpacksWrong)

/-- 'pursuivantlaw20.ServiceAgain': WHATEVER THE INPUT: true; the input reads as it did. -/
def serviceAgainSpec : ChangeSpec := { name := "serviceAgain", fn := fun _ => fun
  | [d1, d2] => { results := [.lit (.bool true)], args := [d1, d2] }
  | _ => none }
def serviceAgainRow : OpenClaim := { program := "ytlolfcnfcgegdaagreat", sum := "b74d9bcf21d0ec76f617a4c6fd0026c69a29d5d7a4fa3bf4b8c4783a223d41fb", func := "pursuivant/pursuivantlaw20.ServiceAgain", spec := "serviceAgain", unfollowed := true, recurses := true, apart := false }
def ServiceAgainSaid : Prop := serviceAgainRow.holds Tryz.pinned (OpenSpec.ofChange serviceAgainSpec)

/-- ITS FALSE NEIGHBOUR: 'it returns false'. Refute it at one input. -/
def serviceAgainWrong : ChangeSpec := { name := "serviceAgain", fn := fun _ => fun
  | [d1, d2] => { results := [.lit (.bool false)], args := [d1, d2] }
  | _ => none }
def ServiceAgainWrongFalsely : Prop := serviceAgainRow.holds Tryz.pinned (OpenSpec.ofChange serviceAgainWrong)

/- THE SECOND FORM. 'bulk': how many values and letters a reading holds, each counted each time it is reached (what is shared counts as often as it is met; a slice's spare places count too). A statement '..UptoSaid' is the law's where the arguments, and the package variables that the reading takes, are together of bulk at most 1048576: NARROWER than '..Said'. Prove '..Said' where nothing that the law and all that it calls make is longer than what came in: it says more and counts as full. Else prove '..UptoSaid'. A law counts once. -/
mutual
def uptoBulk {H : Type} : DataW H → Nat
  | .lit (.string bytes) => bytes.length + 1
  | .lit _ => 1
  | .nil => 1
  | .ptr d => uptoBulk d + 1
  | .slice elems spare => uptoBulkAll elems + uptoBulkAll spare + 1
  | .agg parts => uptoBulkAll parts + 1
  | .iface _ d => uptoBulk d + 1
  | .map entries => uptoBulkEntries entries + 1
  | .held _ => 1
def uptoBulkAll {H : Type} : List (DataW H) → Nat
  | [] => 0
  | d :: r => uptoBulk d + uptoBulkAll r
def uptoBulkEntries {H : Type} : List (Lit × DataW H) → Nat
  | [] => 0
  | x :: r => uptoBulkEntry x + uptoBulkEntries r
def uptoBulkEntry {H : Type} : Lit × DataW H → Nat
  | (.string bytes, d) => bytes.length + uptoBulk d + 1
  | (_, d) => uptoBulk d + 1
 end
def uptoSmall : (H : Type) → List (DataW H) → Bool := fun _ ds => decide (uptoBulkAll ds ≤ 1048576)
def OpenSpec.upto (s : _root_.Go.ChangeSpec) : _root_.Go.OpenSpec := { _root_.Go.OpenSpec.ofChange s with cond := some uptoSmall }

/-- 'pursuivantlaw20.ServicePlays', WHERE WHAT IT READS IS OF BULK AT MOST 1048576: true; the input reads as it did. -/
def servicePlaysUptoRow : OpenClaim := { program := "ytlolfcnfcgegdaagreat", sum := "b74d9bcf21d0ec76f617a4c6fd0026c69a29d5d7a4fa3bf4b8c4783a223d41fb", func := "pursuivant/pursuivantlaw20.ServicePlays", spec := "servicePlays", unfollowed := true, recurses := true, apart := false, narrowed := true }
def ServicePlaysUptoSaid : Prop := servicePlaysUptoRow.holds Tryz.pinned (OpenSpec.upto servicePlaysSpec)

/-- 'pursuivantlaw20.ServiceUnpacks', WHERE WHAT IT READS IS OF BULK AT MOST 1048576: true; the input reads as it did. -/
def serviceUnpacksUptoRow : OpenClaim := { program := "ytlolfcnfcgegdaagreat", sum := "b74d9bcf21d0ec76f617a4c6fd0026c69a29d5d7a4fa3bf4b8c4783a223d41fb", func := "pursuivant/pursuivantlaw20.ServiceUnpacks", spec := "serviceUnpacks", unfollowed := true, recurses := true, apart := false, narrowed := true }
def ServiceUnpacksUptoSaid : Prop := serviceUnpacksUptoRow.holds Tryz.pinned (OpenSpec.upto serviceUnpacksSpec)

/-- 'pursuivantlaw20.ServiceAgain', WHERE WHAT IT READS IS OF BULK AT MOST 1048576: true; the input reads as it did. -/
def serviceAgainUptoRow : OpenClaim := { program := "ytlolfcnfcgegdaagreat", sum := "b74d9bcf21d0ec76f617a4c6fd0026c69a29d5d7a4fa3bf4b8c4783a223d41fb", func := "pursuivant/pursuivantlaw20.ServiceAgain", spec := "serviceAgain", unfollowed := true, recurses := true, apart := false, narrowed := true }
def ServiceAgainUptoSaid : Prop := serviceAgainUptoRow.holds Tryz.pinned (OpenSpec.upto serviceAgainSpec)

end Rows
end Go.Proofs.YtlolfcnfcgegdaaGreat
