/-
  NARROWER THAN 'FOR EVERY INPUT', by the rows' own cells (each row's printed sentence says how): DigestMatchesReference: laid · DigestOneByte: laid · DigestPairByte: laid · DigestExtends: laid · DigestTexts: laid · DigestSteps: laid.
  DERIVED. THE GIVEN ROWS OF THIS SEAT. 6 by the template 'for every input the law returns true; each argument reads behind the call as it read before'; 0 by the template 'total and deterministic' (their statements: YtjjfbcpfmdbblaaDoorTotals.lean).
  GIVEN WITH THE SEED: the statements are not yours to turn. If you find one false, say at which input.
  Laid BY PROGRAM, IN A SANDBOX (cutbox-rows.mjs): the forced cells as the released guide's own fill.sh prints them over the translation 73a94c76b46ab707… (all of the seat's roots in one cut). By AI agents, Wed Nov 11 2026. No macro, syntax, notation, axiom, sorry.
-/
import Derived.Test.YtjjfbcpfmdbblaaDoorChecked
import GoSem.Claim
import GoSem.ClaimJoined
import GoSem.ClaimMapViews
import Derived.JoinedTies
import Derived.KernelRfl
namespace Go.Proofs.YtjjfbcpfmdbblaaDoor
/- THE CELL 'sum', in the pinned program and in every row, IS THE sha256 OF THE DUMP (.gsa) THAT YtjjfbcpfmdbblaaDoorProg.lean LOADS. Nothing in Lean hashes anything: it is a label: what it is worth is what the hold of that sum in a sandbox is worth. -/
noncomputable def Tryd.pinned : Pinned := { name := "ytjjfbcpfmdbblaadoor", sum := "73a94c76b46ab7075fbc0b321d2885706a6e95f6d28ce5ef14f8e5fdd41b4e44", checked := Tryd.checked }
namespace Rows
def none {H : Type} : Left H := { results := [], args := [] }

/- WHAT THE LISTED PACKAGE-LEVEL VARIABLES READ AS WHEN THE CALL BEGINS. Each datum BY PROGRAM (the guide's laid-datum.mjs) off the statement by which the dump's own 'gosem.cut.vars' lays the variable. In a bare row this is a premise. The card (YtjjfbcpfmdbblaaDoorCards.lean) ties it to the program's text. -/
def laid_wageoffice_digest_hexadecimal {H : Type} : DataW H := .agg [.lit (.int .u8 48), .lit (.int .u8 49), .lit (.int .u8 50), .lit (.int .u8 51), .lit (.int .u8 52), .lit (.int .u8 53), .lit (.int .u8 54), .lit (.int .u8 55), .lit (.int .u8 56), .lit (.int .u8 57), .lit (.int .u8 97), .lit (.int .u8 98), .lit (.int .u8 99), .lit (.int .u8 100), .lit (.int .u8 101), .lit (.int .u8 102)]

/-- 'wageofficelaw23.DigestMatchesReference': WHATEVER THE INPUT: true; the input reads as it did. -/
def digestMatchesReferenceSpec : ChangeSpec := { name := "digestMatchesReference", fn := fun _ => fun
  | [d1, d2, d3, d4] => { results := [.lit (.bool true)], args := [d1, d2, d3, d4] }
  | _ => none }
def digestMatchesReferenceRow : OpenClaim := { program := "ytjjfbcpfmdbblaadoor", sum := "73a94c76b46ab7075fbc0b321d2885706a6e95f6d28ce5ef14f8e5fdd41b4e44", func := "wageoffice/wageofficelaw23.DigestMatchesReference", spec := "digestMatchesReference", unfollowed := true, recurses := true, named := ["wageoffice/digest.hexadecimal"], apart := false, laid := [("wageoffice/digest.hexadecimal", laid_wageoffice_digest_hexadecimal)] }
def DigestMatchesReferenceSaid : Prop := digestMatchesReferenceRow.holds Tryd.pinned (OpenSpec.ofChange digestMatchesReferenceSpec)

/-- ITS FALSE NEIGHBOUR: 'it returns false'. Refute it at one input. -/
def digestMatchesReferenceWrong : ChangeSpec := { name := "digestMatchesReference", fn := fun _ => fun
  | [d1, d2, d3, d4] => { results := [.lit (.bool false)], args := [d1, d2, d3, d4] }
  | _ => none }
def DigestMatchesReferenceWrongFalsely : Prop := digestMatchesReferenceRow.holds Tryd.pinned (OpenSpec.ofChange digestMatchesReferenceWrong)

/-- 'wageofficelaw23.DigestOneByte': WHATEVER THE INPUT: true; the input reads as it did. -/
def digestOneByteSpec : ChangeSpec := { name := "digestOneByte", fn := fun _ => fun
  | [d1, d2, d3, d4] => { results := [.lit (.bool true)], args := [d1, d2, d3, d4] }
  | _ => none }
def digestOneByteRow : OpenClaim := { program := "ytjjfbcpfmdbblaadoor", sum := "73a94c76b46ab7075fbc0b321d2885706a6e95f6d28ce5ef14f8e5fdd41b4e44", func := "wageoffice/wageofficelaw23.DigestOneByte", spec := "digestOneByte", unfollowed := true, recurses := true, named := ["wageoffice/digest.hexadecimal"], apart := false, laid := [("wageoffice/digest.hexadecimal", laid_wageoffice_digest_hexadecimal)] }
def DigestOneByteSaid : Prop := digestOneByteRow.holds Tryd.pinned (OpenSpec.ofChange digestOneByteSpec)

/-- ITS FALSE NEIGHBOUR: 'it returns false'. Refute it at one input. -/
def digestOneByteWrong : ChangeSpec := { name := "digestOneByte", fn := fun _ => fun
  | [d1, d2, d3, d4] => { results := [.lit (.bool false)], args := [d1, d2, d3, d4] }
  | _ => none }
def DigestOneByteWrongFalsely : Prop := digestOneByteRow.holds Tryd.pinned (OpenSpec.ofChange digestOneByteWrong)

/-- 'wageofficelaw23.DigestPairByte': WHATEVER THE INPUT: true; the input reads as it did. -/
def digestPairByteSpec : ChangeSpec := { name := "digestPairByte", fn := fun _ => fun
  | [d1, d2, d3, d4] => { results := [.lit (.bool true)], args := [d1, d2, d3, d4] }
  | _ => none }
def digestPairByteRow : OpenClaim := { program := "ytjjfbcpfmdbblaadoor", sum := "73a94c76b46ab7075fbc0b321d2885706a6e95f6d28ce5ef14f8e5fdd41b4e44", func := "wageoffice/wageofficelaw23.DigestPairByte", spec := "digestPairByte", unfollowed := true, recurses := true, named := ["wageoffice/digest.hexadecimal"], apart := false, laid := [("wageoffice/digest.hexadecimal", laid_wageoffice_digest_hexadecimal)] }
def DigestPairByteSaid : Prop := digestPairByteRow.holds Tryd.pinned (OpenSpec.ofChange digestPairByteSpec)

/-- ITS FALSE NEIGHBOUR: 'it returns false'. Refute it at one input. -/
def digestPairByteWrong : ChangeSpec := { name := "digestPairByte", fn := fun _ => fun
  | [d1, d2, d3, d4] => { results := [.lit (.bool false)], args := [d1, d2, d3, d4] }
  | _ => none }
def DigestPairByteWrongFalsely : Prop := digestPairByteRow.holds Tryd.pinned (OpenSpec.ofChange digestPairByteWrong)

/-- 'wageofficelaw23.DigestExtends': WHATEVER THE INPUT: true; the input reads as it did. -/
def digestExtendsSpec : ChangeSpec := { name := "digestExtends", fn := fun _ => fun
  | [d1, d2, d3] => { results := [.lit (.bool true)], args := [d1, d2, d3] }
  | _ => none }
def digestExtendsRow : OpenClaim := { program := "ytjjfbcpfmdbblaadoor", sum := "73a94c76b46ab7075fbc0b321d2885706a6e95f6d28ce5ef14f8e5fdd41b4e44", func := "wageoffice/wageofficelaw23.DigestExtends", spec := "digestExtends", unfollowed := true, recurses := true, named := ["wageoffice/digest.hexadecimal"], apart := false, laid := [("wageoffice/digest.hexadecimal", laid_wageoffice_digest_hexadecimal)] }
def DigestExtendsSaid : Prop := digestExtendsRow.holds Tryd.pinned (OpenSpec.ofChange digestExtendsSpec)

/-- ITS FALSE NEIGHBOUR: 'it returns false'. Refute it at one input. -/
def digestExtendsWrong : ChangeSpec := { name := "digestExtends", fn := fun _ => fun
  | [d1, d2, d3] => { results := [.lit (.bool false)], args := [d1, d2, d3] }
  | _ => none }
def DigestExtendsWrongFalsely : Prop := digestExtendsRow.holds Tryd.pinned (OpenSpec.ofChange digestExtendsWrong)

/-- 'wageofficelaw23.DigestTexts': WHATEVER THE INPUT: true; the input reads as it did. -/
def digestTextsSpec : ChangeSpec := { name := "digestTexts", fn := fun _ => fun
  | [d1, d2, d3] => { results := [.lit (.bool true)], args := [d1, d2, d3] }
  | _ => none }
def digestTextsRow : OpenClaim := { program := "ytjjfbcpfmdbblaadoor", sum := "73a94c76b46ab7075fbc0b321d2885706a6e95f6d28ce5ef14f8e5fdd41b4e44", func := "wageoffice/wageofficelaw23.DigestTexts", spec := "digestTexts", unfollowed := true, recurses := true, named := ["wageoffice/digest.hexadecimal"], apart := false, laid := [("wageoffice/digest.hexadecimal", laid_wageoffice_digest_hexadecimal)] }
def DigestTextsSaid : Prop := digestTextsRow.holds Tryd.pinned (OpenSpec.ofChange digestTextsSpec)

/-- ITS FALSE NEIGHBOUR: 'it returns false'. Refute it at one input. -/
def digestTextsWrong : ChangeSpec := { name := "digestTexts", fn := fun _ => fun
  | [d1, d2, d3] => { results := [.lit (.bool false)], args := [d1, d2, d3] }
  | _ => none }
def DigestTextsWrongFalsely : Prop := digestTextsRow.holds Tryd.pinned (OpenSpec.ofChange digestTextsWrong)

/-- 'wageofficelaw23.DigestSteps': WHATEVER THE INPUT: true; the input reads as it did. -/
def digestStepsSpec : ChangeSpec := { name := "digestSteps", fn := fun _ => fun
  | [d1, d2] => { results := [.lit (.bool true)], args := [d1, d2] }
  | _ => none }
def digestStepsRow : OpenClaim := { program := "ytjjfbcpfmdbblaadoor", sum := "73a94c76b46ab7075fbc0b321d2885706a6e95f6d28ce5ef14f8e5fdd41b4e44", func := "wageoffice/wageofficelaw23.DigestSteps", spec := "digestSteps", unfollowed := true, recurses := true, named := ["wageoffice/digest.hexadecimal"], apart := false, laid := [("wageoffice/digest.hexadecimal", laid_wageoffice_digest_hexadecimal)] }
def DigestStepsSaid : Prop := digestStepsRow.holds Tryd.pinned (OpenSpec.ofChange digestStepsSpec)

/-- ITS FALSE NEIGHBOUR: 'it returns false'. Refute it at one input. -/
def digestStepsWrong : ChangeSpec := { name := "digestSteps", fn := fun _ => fun
  | [d1, d2] => { results := [.lit (.bool false)], args := [d1, d2] }
  | _ => none }
def DigestStepsWrongFalsely : Prop := digestStepsRow.holds Tryd.pinned (OpenSpec.ofChange digestStepsWrong)

/- THE SECOND FORM. 'bulk': how many values and letters a reading holds, each counted each time it is reached (what is shared counts as often as it is met; a slice's spare places count too). A statement '..UptoSaid' is the law's where the arguments, and the package variables that the reading takes, are together of bulk at most 1048576: NARROWER than '..Said'. Prove '..Said' where nothing that the law and all that it calls make is longer than what came in: it says more and counts as full. Else prove '..UptoSaid'. A law counts once. -/
mutual
def uptoBulk {H : Type} : DataW H → Nat
  | .lit (.string bytes) => bytes.length + 1
  | .lit _ => 1
  | .nil => 1
  | .ptr d => uptoBulk d + 1
  | .slice elems spare => uptoBulkAll elems + uptoBulkAll spare + 1
  | .agg parts => uptoBulkAll parts + 1
  | .iface _ d => uptoBulk d + 1
  | .map entries => uptoBulkEntries entries + 1
  | .held _ => 1
def uptoBulkAll {H : Type} : List (DataW H) → Nat
  | [] => 0
  | d :: r => uptoBulk d + uptoBulkAll r
def uptoBulkEntries {H : Type} : List (Lit × DataW H) → Nat
  | [] => 0
  | x :: r => uptoBulkEntry x + uptoBulkEntries r
def uptoBulkEntry {H : Type} : Lit × DataW H → Nat
  | (.string bytes, d) => bytes.length + uptoBulk d + 1
  | (_, d) => uptoBulk d + 1
 end
def uptoSmall : (H : Type) → List (DataW H) → Bool := fun _ ds => decide (uptoBulkAll ds ≤ 1048576)
def OpenSpec.upto (s : _root_.Go.ChangeSpec) : _root_.Go.OpenSpec := { _root_.Go.OpenSpec.ofChange s with cond := some uptoSmall }

/-- 'wageofficelaw23.DigestMatchesReference', WHERE WHAT IT READS IS OF BULK AT MOST 1048576: true; the input reads as it did. -/
def digestMatchesReferenceUptoRow : OpenClaim := { program := "ytjjfbcpfmdbblaadoor", sum := "73a94c76b46ab7075fbc0b321d2885706a6e95f6d28ce5ef14f8e5fdd41b4e44", func := "wageoffice/wageofficelaw23.DigestMatchesReference", spec := "digestMatchesReference", unfollowed := true, recurses := true, named := ["wageoffice/digest.hexadecimal"], apart := false, laid := [("wageoffice/digest.hexadecimal", laid_wageoffice_digest_hexadecimal)], narrowed := true }
def DigestMatchesReferenceUptoSaid : Prop := digestMatchesReferenceUptoRow.holds Tryd.pinned (OpenSpec.upto digestMatchesReferenceSpec)

/-- 'wageofficelaw23.DigestOneByte', WHERE WHAT IT READS IS OF BULK AT MOST 1048576: true; the input reads as it did. -/
def digestOneByteUptoRow : OpenClaim := { program := "ytjjfbcpfmdbblaadoor", sum := "73a94c76b46ab7075fbc0b321d2885706a6e95f6d28ce5ef14f8e5fdd41b4e44", func := "wageoffice/wageofficelaw23.DigestOneByte", spec := "digestOneByte", unfollowed := true, recurses := true, named := ["wageoffice/digest.hexadecimal"], apart := false, laid := [("wageoffice/digest.hexadecimal", laid_wageoffice_digest_hexadecimal)], narrowed := true }
def DigestOneByteUptoSaid : Prop := digestOneByteUptoRow.holds Tryd.pinned (OpenSpec.upto digestOneByteSpec)

/-- 'wageofficelaw23.DigestPairByte', WHERE WHAT IT READS IS OF BULK AT MOST 1048576: true; the input reads as it did. -/
def digestPairByteUptoRow : OpenClaim := { program := "ytjjfbcpfmdbblaadoor", sum := "73a94c76b46ab7075fbc0b321d2885706a6e95f6d28ce5ef14f8e5fdd41b4e44", func := "wageoffice/wageofficelaw23.DigestPairByte", spec := "digestPairByte", unfollowed := true, recurses := true, named := ["wageoffice/digest.hexadecimal"], apart := false, laid := [("wageoffice/digest.hexadecimal", laid_wageoffice_digest_hexadecimal)], narrowed := true }
def DigestPairByteUptoSaid : Prop := digestPairByteUptoRow.holds Tryd.pinned (OpenSpec.upto digestPairByteSpec)

/-- 'wageofficelaw23.DigestExtends', WHERE WHAT IT READS IS OF BULK AT MOST 1048576: true; the input reads as it did. -/
def digestExtendsUptoRow : OpenClaim := { program := "ytjjfbcpfmdbblaadoor", sum := "73a94c76b46ab7075fbc0b321d2885706a6e95f6d28ce5ef14f8e5fdd41b4e44", func := "wageoffice/wageofficelaw23.DigestExtends", spec := "digestExtends", unfollowed := true, recurses := true, named := ["wageoffice/digest.hexadecimal"], apart := false, laid := [("wageoffice/digest.hexadecimal", laid_wageoffice_digest_hexadecimal)], narrowed := true }
def DigestExtendsUptoSaid : Prop := digestExtendsUptoRow.holds Tryd.pinned (OpenSpec.upto digestExtendsSpec)

/-- 'wageofficelaw23.DigestTexts', WHERE WHAT IT READS IS OF BULK AT MOST 1048576: true; the input reads as it did. -/
def digestTextsUptoRow : OpenClaim := { program := "ytjjfbcpfmdbblaadoor", sum := "73a94c76b46ab7075fbc0b321d2885706a6e95f6d28ce5ef14f8e5fdd41b4e44", func := "wageoffice/wageofficelaw23.DigestTexts", spec := "digestTexts", unfollowed := true, recurses := true, named := ["wageoffice/digest.hexadecimal"], apart := false, laid := [("wageoffice/digest.hexadecimal", laid_wageoffice_digest_hexadecimal)], narrowed := true }
def DigestTextsUptoSaid : Prop := digestTextsUptoRow.holds Tryd.pinned (OpenSpec.upto digestTextsSpec)

/-- 'wageofficelaw23.DigestSteps', WHERE WHAT IT READS IS OF BULK AT MOST 1048576: true; the input reads as it did. -/
def digestStepsUptoRow : OpenClaim := { program := "ytjjfbcpfmdbblaadoor", sum := "73a94c76b46ab7075fbc0b321d2885706a6e95f6d28ce5ef14f8e5fdd41b4e44", func := "wageoffice/wageofficelaw23.DigestSteps", spec := "digestSteps", unfollowed := true, recurses := true, named := ["wageoffice/digest.hexadecimal"], apart := false, laid := [("wageoffice/digest.hexadecimal", laid_wageoffice_digest_hexadecimal)], narrowed := true }
def DigestStepsUptoSaid : Prop := digestStepsUptoRow.holds Tryd.pinned (OpenSpec.upto digestStepsSpec)

end Rows
end Go.Proofs.YtjjfbcpfmdbblaaDoor
