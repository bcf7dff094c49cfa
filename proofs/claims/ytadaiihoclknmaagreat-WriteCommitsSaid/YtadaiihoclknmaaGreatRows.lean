/-
  No cell of these rows narrows 'for every input' (looked for: loops, veiled, ifaces, maps, wideKeys, modest, calm, conditions, laid).
  DERIVED. THE GIVEN ROWS OF THIS SEAT. 11 by the template 'for every input the law returns true; each argument reads behind the call as it read before'; 0 by the template 'total and deterministic' (their statements: YtadaiihoclknmaaGreatTotals.lean).
  GIVEN WITH THE SEED: the statements are not yours to turn. If you find one false, say at which input.
  Laid BY PROGRAM, IN A SANDBOX (cutbox-rows.mjs): the forced cells as the released guide's own fill.sh prints them over the translation 4b006c7f187a5e73… (all of the seat's roots in one cut). By AI agents, Wed Nov 11 2026. No macro, syntax, notation, axiom, sorry.
-/
import Derived.Test.YtadaiihoclknmaaGreatChecked
import GoSem.Claim
import GoSem.ClaimJoined
import GoSem.ClaimMapViews
import Derived.JoinedTies
import Derived.KernelRfl
namespace Go.Proofs.YtadaiihoclknmaaGreat
/- THE CELL 'sum', in the pinned program and in every row, IS THE sha256 OF THE DUMP (.gsa) THAT YtadaiihoclknmaaGreatProg.lean LOADS. Nothing in Lean hashes anything: it is a label: what it is worth is what the hold of that sum in a sandbox is worth. -/
noncomputable def Tryz.pinned : Pinned := { name := "ytadaiihoclknmaagreat", sum := "4b006c7f187a5e7318512d9ff15c25c86216cac42da109f757417775bf3fd8a4", checked := Tryz.checked }
namespace Rows
def none {H : Type} : Left H := { results := [], args := [] }

/-- 'rundlelaw20.WriteCommits': WHATEVER THE INPUT: true; the input reads as it did. -/
def writeCommitsSpec : ChangeSpec := { name := "writeCommits", fn := fun _ => fun
  | [d1, d2, d3] => { results := [.lit (.bool true)], args := [d1, d2, d3] }
  | _ => none }
def writeCommitsRow : OpenClaim := { program := "ytadaiihoclknmaagreat", sum := "4b006c7f187a5e7318512d9ff15c25c86216cac42da109f757417775bf3fd8a4", func := "rundle/rundlelaw20.WriteCommits", spec := "writeCommits", unfollowed := true, recurses := true, apart := false }
def WriteCommitsSaid : Prop := writeCommitsRow.holds Tryz.pinned (OpenSpec.ofChange writeCommitsSpec)

/-- ITS FALSE NEIGHBOUR: 'it returns false'. Refute it at one input. -/
def writeCommitsWrong : ChangeSpec := { name := "writeCommits", fn := fun _ => fun
  | [d1, d2, d3] => { results := [.lit (.bool false)], args := [d1, d2, d3] }
  | _ => none }
def WriteCommitsWrongFalsely : Prop := writeCommitsRow.holds Tryz.pinned (OpenSpec.ofChange writeCommitsWrong)

/-- 'rundlelaw20.WriteApart': WHATEVER THE INPUT: true; the input reads as it did. -/
def writeApartSpec : ChangeSpec := { name := "writeApart", fn := fun _ => fun
  | [d1, d2] => { results := [.lit (.bool true)], args := [d1, d2] }
  | _ => none }
def writeApartRow : OpenClaim := { program := "ytadaiihoclknmaagreat", sum := "4b006c7f187a5e7318512d9ff15c25c86216cac42da109f757417775bf3fd8a4", func := "rundle/rundlelaw20.WriteApart", spec := "writeApart", unfollowed := true, recurses := true, apart := false }
def WriteApartSaid : Prop := writeApartRow.holds Tryz.pinned (OpenSpec.ofChange writeApartSpec)

/-- ITS FALSE NEIGHBOUR: 'it returns false'. Refute it at one input. -/
def writeApartWrong : ChangeSpec := { name := "writeApart", fn := fun _ => fun
  | [d1, d2] => { results := [.lit (.bool false)], args := [d1, d2] }
  | _ => none }
def WriteApartWrongFalsely : Prop := writeApartRow.holds Tryz.pinned (OpenSpec.ofChange writeApartWrong)

/-- 'rundlelaw19.ReadGets': WHATEVER THE INPUT: true; the input reads as it did. -/
def readGetsSpec : ChangeSpec := { name := "readGets", fn := fun _ => fun
  | [d1, d2, d3, d4] => { results := [.lit (.bool true)], args := [d1, d2, d3, d4] }
  | _ => none }
def readGetsRow : OpenClaim := { program := "ytadaiihoclknmaagreat", sum := "4b006c7f187a5e7318512d9ff15c25c86216cac42da109f757417775bf3fd8a4", func := "rundle/rundlelaw19.ReadGets", spec := "readGets", unfollowed := true, recurses := true, apart := false }
def ReadGetsSaid : Prop := readGetsRow.holds Tryz.pinned (OpenSpec.ofChange readGetsSpec)

/-- ITS FALSE NEIGHBOUR: 'it returns false'. Refute it at one input. -/
def readGetsWrong : ChangeSpec := { name := "readGets", fn := fun _ => fun
  | [d1, d2, d3, d4] => { results := [.lit (.bool false)], args := [d1, d2, d3, d4] }
  | _ => none }
def ReadGetsWrongFalsely : Prop := readGetsRow.holds Tryz.pinned (OpenSpec.ofChange readGetsWrong)

/-- 'rundlelaw20.WritePlays': WHATEVER THE INPUT: true; the input reads as it did. -/
def writePlaysSpec : ChangeSpec := { name := "writePlays", fn := fun _ => fun
  | [d1, d2] => { results := [.lit (.bool true)], args := [d1, d2] }
  | _ => none }
def writePlaysRow : OpenClaim := { program := "ytadaiihoclknmaagreat", sum := "4b006c7f187a5e7318512d9ff15c25c86216cac42da109f757417775bf3fd8a4", func := "rundle/rundlelaw20.WritePlays", spec := "writePlays", unfollowed := true, recurses := true, apart := false }
def WritePlaysSaid : Prop := writePlaysRow.holds Tryz.pinned (OpenSpec.ofChange writePlaysSpec)

/-- ITS FALSE NEIGHBOUR: 'it returns false'. Refute it at one input. -/
def writePlaysWrong : ChangeSpec := { name := "writePlays", fn := fun _ => fun
  | [d1, d2] => { results := [.lit (.bool false)], args := [d1, d2] }
  | _ => none }
def WritePlaysWrongFalsely : Prop := writePlaysRow.holds Tryz.pinned (OpenSpec.ofChange writePlaysWrong)

/-- 'rundlelaw20.WriteFull': WHATEVER THE INPUT: true; the input reads as it did. -/
def writeFullSpec : ChangeSpec := { name := "writeFull", fn := fun _ => fun
  | [d1, d2] => { results := [.lit (.bool true)], args := [d1, d2] }
  | _ => none }
def writeFullRow : OpenClaim := { program := "ytadaiihoclknmaagreat", sum := "4b006c7f187a5e7318512d9ff15c25c86216cac42da109f757417775bf3fd8a4", func := "rundle/rundlelaw20.WriteFull", spec := "writeFull", unfollowed := true, recurses := true, apart := false }
def WriteFullSaid : Prop := writeFullRow.holds Tryz.pinned (OpenSpec.ofChange writeFullSpec)

/-- ITS FALSE NEIGHBOUR: 'it returns false'. Refute it at one input. -/
def writeFullWrong : ChangeSpec := { name := "writeFull", fn := fun _ => fun
  | [d1, d2] => { results := [.lit (.bool false)], args := [d1, d2] }
  | _ => none }
def WriteFullWrongFalsely : Prop := writeFullRow.holds Tryz.pinned (OpenSpec.ofChange writeFullWrong)

/-- 'rundlelaw20.WriteInit': WHATEVER THE INPUT: true; the input reads as it did. -/
def writeInitSpec : ChangeSpec := { name := "writeInit", fn := fun _ => fun
  | [d1, d2] => { results := [.lit (.bool true)], args := [d1, d2] }
  | _ => none }
def writeInitRow : OpenClaim := { program := "ytadaiihoclknmaagreat", sum := "4b006c7f187a5e7318512d9ff15c25c86216cac42da109f757417775bf3fd8a4", func := "rundle/rundlelaw20.WriteInit", spec := "writeInit", unfollowed := true, recurses := true, apart := false }
def WriteInitSaid : Prop := writeInitRow.holds Tryz.pinned (OpenSpec.ofChange writeInitSpec)

/-- ITS FALSE NEIGHBOUR: 'it returns false'. Refute it at one input. -/
def writeInitWrong : ChangeSpec := { name := "writeInit", fn := fun _ => fun
  | [d1, d2] => { results := [.lit (.bool false)], args := [d1, d2] }
  | _ => none }
def WriteInitWrongFalsely : Prop := writeInitRow.holds Tryz.pinned (OpenSpec.ofChange writeInitWrong)

/-- 'rundlelaw19.ReadFinds': WHATEVER THE INPUT: true; the input reads as it did. -/
def readFindsSpec : ChangeSpec := { name := "readFinds", fn := fun _ => fun
  | [d1, d2, d3, d4] => { results := [.lit (.bool true)], args := [d1, d2, d3, d4] }
  | _ => none }
def readFindsRow : OpenClaim := { program := "ytadaiihoclknmaagreat", sum := "4b006c7f187a5e7318512d9ff15c25c86216cac42da109f757417775bf3fd8a4", func := "rundle/rundlelaw19.ReadFinds", spec := "readFinds", unfollowed := true, recurses := true, apart := false }
def ReadFindsSaid : Prop := readFindsRow.holds Tryz.pinned (OpenSpec.ofChange readFindsSpec)

/-- ITS FALSE NEIGHBOUR: 'it returns false'. Refute it at one input. -/
def readFindsWrong : ChangeSpec := { name := "readFinds", fn := fun _ => fun
  | [d1, d2, d3, d4] => { results := [.lit (.bool false)], args := [d1, d2, d3, d4] }
  | _ => none }
def ReadFindsWrongFalsely : Prop := readFindsRow.holds Tryz.pinned (OpenSpec.ofChange readFindsWrong)

/-- 'rundlelaw19.ReadParts': WHATEVER THE INPUT: true; the input reads as it did. -/
def readPartsSpec : ChangeSpec := { name := "readParts", fn := fun _ => fun
  | [d1, d2, d3, d4] => { results := [.lit (.bool true)], args := [d1, d2, d3, d4] }
  | _ => none }
def readPartsRow : OpenClaim := { program := "ytadaiihoclknmaagreat", sum := "4b006c7f187a5e7318512d9ff15c25c86216cac42da109f757417775bf3fd8a4", func := "rundle/rundlelaw19.ReadParts", spec := "readParts", unfollowed := true, recurses := true, apart := false }
def ReadPartsSaid : Prop := readPartsRow.holds Tryz.pinned (OpenSpec.ofChange readPartsSpec)

/-- ITS FALSE NEIGHBOUR: 'it returns false'. Refute it at one input. -/
def readPartsWrong : ChangeSpec := { name := "readParts", fn := fun _ => fun
  | [d1, d2, d3, d4] => { results := [.lit (.bool false)], args := [d1, d2, d3, d4] }
  | _ => none }
def ReadPartsWrongFalsely : Prop := readPartsRow.holds Tryz.pinned (OpenSpec.ofChange readPartsWrong)

/-- 'rundlelaw20.WriteTogether': WHATEVER THE INPUT: true; the input reads as it did. -/
def writeTogetherSpec : ChangeSpec := { name := "writeTogether", fn := fun _ => fun
  | [d1, d2] => { results := [.lit (.bool true)], args := [d1, d2] }
  | _ => none }
def writeTogetherRow : OpenClaim := { program := "ytadaiihoclknmaagreat", sum := "4b006c7f187a5e7318512d9ff15c25c86216cac42da109f757417775bf3fd8a4", func := "rundle/rundlelaw20.WriteTogether", spec := "writeTogether", unfollowed := true, recurses := true, apart := false }
def WriteTogetherSaid : Prop := writeTogetherRow.holds Tryz.pinned (OpenSpec.ofChange writeTogetherSpec)

/-- ITS FALSE NEIGHBOUR: 'it returns false'. Refute it at one input. -/
def writeTogetherWrong : ChangeSpec := { name := "writeTogether", fn := fun _ => fun
  | [d1, d2] => { results := [.lit (.bool false)], args := [d1, d2] }
  | _ => none }
def WriteTogetherWrongFalsely : Prop := writeTogetherRow.holds Tryz.pinned (OpenSpec.ofChange writeTogetherWrong)

/-- 'rundlelaw20.WriteHelped': WHATEVER THE INPUT: true; the input reads as it did. -/
def writeHelpedSpec : ChangeSpec := { name := "writeHelped", fn := fun _ => fun
  | [d1, d2, d3] => { results := [.lit (.bool true)], args := [d1, d2, d3] }
  | _ => none }
def writeHelpedRow : OpenClaim := { program := "ytadaiihoclknmaagreat", sum := "4b006c7f187a5e7318512d9ff15c25c86216cac42da109f757417775bf3fd8a4", func := "rundle/rundlelaw20.WriteHelped", spec := "writeHelped", unfollowed := true, recurses := true, apart := false }
def WriteHelpedSaid : Prop := writeHelpedRow.holds Tryz.pinned (OpenSpec.ofChange writeHelpedSpec)

/-- ITS FALSE NEIGHBOUR: 'it returns false'. Refute it at one input. -/
def writeHelpedWrong : ChangeSpec := { name := "writeHelped", fn := fun _ => fun
  | [d1, d2, d3] => { results := [.lit (.bool false)], args := [d1, d2, d3] }
  | _ => none }
def WriteHelpedWrongFalsely : Prop := writeHelpedRow.holds Tryz.pinned (OpenSpec.ofChange writeHelpedWrong)

/-- 'rundlelaw20.WriteParts': WHATEVER THE INPUT: true; the input reads as it did. -/
def writePartsSpec : ChangeSpec := { name := "writeParts", fn := fun _ => fun
  | [d] => { results := [.lit (.bool true)], args := [d] }
  | _ => none }
def writePartsRow : OpenClaim := { program := "ytadaiihoclknmaagreat", sum := "4b006c7f187a5e7318512d9ff15c25c86216cac42da109f757417775bf3fd8a4", func := "rundle/rundlelaw20.WriteParts", spec := "writeParts", unfollowed := true, recurses := true, apart := false }
def WritePartsSaid : Prop := writePartsRow.holds Tryz.pinned (OpenSpec.ofChange writePartsSpec)

/-- ITS FALSE NEIGHBOUR: 'it returns false'. Refute it at one input. -/
def writePartsWrong : ChangeSpec := { name := "writeParts", fn := fun _ => fun
  | [d] => { results := [.lit (.bool false)], args := [d] }
  | _ => none }
def WritePartsWrongFalsely : Prop := writePartsRow.holds Tryz.pinned (OpenSpec.ofChange writePartsWrong)

/- THE SECOND FORM. 'bulk': how many values and letters a reading holds, each counted each time it is reached (what is shared counts as often as it is met; a slice's spare places count too). A statement '..UptoSaid' is the law's where the arguments, and the package variables that the reading takes, are together of bulk at most 1048576: NARROWER than '..Said'. Prove '..Said' where nothing that the law and all that it calls make is longer than what came in: it says more and counts as full. Else prove '..UptoSaid'. A law counts once. -/
mutual
def uptoBulk {H : Type} : DataW H → Nat
  | .lit (.string bytes) => bytes.length + 1
  | .lit _ => 1
  | .nil => 1
  | .ptr d => uptoBulk d + 1
  | .slice elems spare => uptoBulkAll elems + uptoBulkAll spare + 1
  | .agg parts => uptoBulkAll parts + 1
  | .iface _ d => uptoBulk d + 1
  | .map entries => uptoBulkEntries entries + 1
  | .held _ => 1
def uptoBulkAll {H : Type} : List (DataW H) → Nat
  | [] => 0
  | d :: r => uptoBulk d + uptoBulkAll r
def uptoBulkEntries {H : Type} : List (Lit × DataW H) → Nat
  | [] => 0
  | x :: r => uptoBulkEntry x + uptoBulkEntries r
def uptoBulkEntry {H : Type} : Lit × DataW H → Nat
  | (.string bytes, d) => bytes.length + uptoBulk d + 1
  | (_, d) => uptoBulk d + 1
 end
def uptoSmall : (H : Type) → List (DataW H) → Bool := fun _ ds => decide (uptoBulkAll ds ≤ 1048576)
def OpenSpec.upto (s : _root_.Go.ChangeSpec) : _root_.Go.OpenSpec := { _root_.Go.OpenSpec.ofChange s with cond := some uptoSmall }

/-- 'rundlelaw20.WriteCommits', WHERE WHAT IT READS IS OF BULK AT MOST 1048576: true; the input reads as it did. -/
def writeCommitsUptoRow : OpenClaim := { program := "ytadaiihoclknmaagreat", sum := "4b006c7f187a5e7318512d9ff15c25c86216cac42da109f757417775bf3fd8a4", func := "rundle/rundlelaw20.WriteCommits", spec := "writeCommits", unfollowed := true, recurses := true, apart := false, narrowed := true }
def WriteCommitsUptoSaid : Prop := writeCommitsUptoRow.holds Tryz.pinned (OpenSpec.upto writeCommitsSpec)

/-- 'rundlelaw20.WriteApart', WHERE WHAT IT READS IS OF BULK AT MOST 1048576: true; the input reads as it did. -/
def writeApartUptoRow : OpenClaim := { program := "ytadaiihoclknmaagreat", sum := "4b006c7f187a5e7318512d9ff15c25c86216cac42da109f757417775bf3fd8a4", func := "rundle/rundlelaw20.WriteApart", spec := "writeApart", unfollowed := true, recurses := true, apart := false, narrowed := true }
def WriteApartUptoSaid : Prop := writeApartUptoRow.holds Tryz.pinned (OpenSpec.upto writeApartSpec)

/-- 'rundlelaw19.ReadGets', WHERE WHAT IT READS IS OF BULK AT MOST 1048576: true; the input reads as it did. -/
def readGetsUptoRow : OpenClaim := { program := "ytadaiihoclknmaagreat", sum := "4b006c7f187a5e7318512d9ff15c25c86216cac42da109f757417775bf3fd8a4", func := "rundle/rundlelaw19.ReadGets", spec := "readGets", unfollowed := true, recurses := true, apart := false, narrowed := true }
def ReadGetsUptoSaid : Prop := readGetsUptoRow.holds Tryz.pinned (OpenSpec.upto readGetsSpec)

/-- 'rundlelaw20.WritePlays', WHERE WHAT IT READS IS OF BULK AT MOST 1048576: true; the input reads as it did. -/
def writePlaysUptoRow : OpenClaim := { program := "ytadaiihoclknmaagreat", sum := "4b006c7f187a5e7318512d9ff15c25c86216cac42da109f757417775bf3fd8a4", func := "rundle/rundlelaw20.WritePlays", spec := "writePlays", unfollowed := true, recurses := true, apart := false, narrowed := true }
def WritePlaysUptoSaid : Prop := writePlaysUptoRow.holds Tryz.pinned (OpenSpec.upto writePlaysSpec)

/-- 'rundlelaw20.WriteFull', WHERE WHAT IT READS IS OF BULK AT MOST 1048576: true; the input reads as it did. -/
def writeFullUptoRow : OpenClaim := { program := "ytadaiihoclknmaagreat", sum := "4b006c7f187a5e7318512d9ff15c25c86216cac42da109f757417775bf3fd8a4", func := "rundle/rundlelaw20.WriteFull", spec := "writeFull", unfollowed := true, recurses := true, apart := false, narrowed := true }
def WriteFullUptoSaid : Prop := writeFullUptoRow.holds Tryz.pinned (OpenSpec.upto writeFullSpec)

/-- 'rundlelaw20.WriteInit', WHERE WHAT IT READS IS OF BULK AT MOST 1048576: true; the input reads as it did. -/
def writeInitUptoRow : OpenClaim := { program := "ytadaiihoclknmaagreat", sum := "4b006c7f187a5e7318512d9ff15c25c86216cac42da109f757417775bf3fd8a4", func := "rundle/rundlelaw20.WriteInit", spec := "writeInit", unfollowed := true, recurses := true, apart := false, narrowed := true }
def WriteInitUptoSaid : Prop := writeInitUptoRow.holds Tryz.pinned (OpenSpec.upto writeInitSpec)

/-- 'rundlelaw19.ReadFinds', WHERE WHAT IT READS IS OF BULK AT MOST 1048576: true; the input reads as it did. -/
def readFindsUptoRow : OpenClaim := { program := "ytadaiihoclknmaagreat", sum := "4b006c7f187a5e7318512d9ff15c25c86216cac42da109f757417775bf3fd8a4", func := "rundle/rundlelaw19.ReadFinds", spec := "readFinds", unfollowed := true, recurses := true, apart := false, narrowed := true }
def ReadFindsUptoSaid : Prop := readFindsUptoRow.holds Tryz.pinned (OpenSpec.upto readFindsSpec)

/-- 'rundlelaw19.ReadParts', WHERE WHAT IT READS IS OF BULK AT MOST 1048576: true; the input reads as it did. -/
def readPartsUptoRow : OpenClaim := { program := "ytadaiihoclknmaagreat", sum := "4b006c7f187a5e7318512d9ff15c25c86216cac42da109f757417775bf3fd8a4", func := "rundle/rundlelaw19.ReadParts", spec := "readParts", unfollowed := true, recurses := true, apart := false, narrowed := true }
def ReadPartsUptoSaid : Prop := readPartsUptoRow.holds Tryz.pinned (OpenSpec.upto readPartsSpec)

/-- 'rundlelaw20.WriteTogether', WHERE WHAT IT READS IS OF BULK AT MOST 1048576: true; the input reads as it did. -/
def writeTogetherUptoRow : OpenClaim := { program := "ytadaiihoclknmaagreat", sum := "4b006c7f187a5e7318512d9ff15c25c86216cac42da109f757417775bf3fd8a4", func := "rundle/rundlelaw20.WriteTogether", spec := "writeTogether", unfollowed := true, recurses := true, apart := false, narrowed := true }
def WriteTogetherUptoSaid : Prop := writeTogetherUptoRow.holds Tryz.pinned (OpenSpec.upto writeTogetherSpec)

/-- 'rundlelaw20.WriteHelped', WHERE WHAT IT READS IS OF BULK AT MOST 1048576: true; the input reads as it did. -/
def writeHelpedUptoRow : OpenClaim := { program := "ytadaiihoclknmaagreat", sum := "4b006c7f187a5e7318512d9ff15c25c86216cac42da109f757417775bf3fd8a4", func := "rundle/rundlelaw20.WriteHelped", spec := "writeHelped", unfollowed := true, recurses := true, apart := false, narrowed := true }
def WriteHelpedUptoSaid : Prop := writeHelpedUptoRow.holds Tryz.pinned (OpenSpec.upto writeHelpedSpec)

/-- 'rundlelaw20.WriteParts', WHERE WHAT IT READS IS OF BULK AT MOST 1048576: true; the input reads as it did. -/
def writePartsUptoRow : OpenClaim := { program := "ytadaiihoclknmaagreat", sum := "4b006c7f187a5e7318512d9ff15c25c86216cac42da109f757417775bf3fd8a4", func := "rundle/rundlelaw20.WriteParts", spec := "writeParts", unfollowed := true, recurses := true, apart := false, narrowed := true }
def WritePartsUptoSaid : Prop := writePartsUptoRow.holds Tryz.pinned (OpenSpec.upto writePartsSpec)

end Rows
end Go.Proofs.YtadaiihoclknmaaGreat
