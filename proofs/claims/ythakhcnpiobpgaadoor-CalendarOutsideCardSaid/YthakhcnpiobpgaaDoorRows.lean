/-
  NARROWER THAN 'FOR EVERY INPUT', by the rows' own cells (each row's printed sentence says how): CalendarMatchesReference: laid · CalendarInverse: laid · CalendarNext: laid · CalendarMonths: laid · CalendarLater: laid · CalendarOutside: laid.
  DERIVED. THE GIVEN ROWS OF THIS SEAT. 6 by the template 'for every input the law returns true; each argument reads behind the call as it read before'; 0 by the template 'total and deterministic' (their statements: YthakhcnpiobpgaaDoorTotals.lean).
  GIVEN WITH THE SEED: the statements are not yours to turn. If you find one false, say at which input.
  Laid BY PROGRAM, IN A SANDBOX (cutbox-rows.mjs): the forced cells as the released guide's own fill.sh prints them over the translation 4c196274cd49096d… (all of the seat's roots in one cut). By AI agents, Wed Nov 11 2026. No macro, syntax, notation, axiom, sorry.
-/
import Derived.Test.YthakhcnpiobpgaaDoorChecked
import GoSem.Claim
import GoSem.ClaimJoined
import GoSem.ClaimMapViews
import Derived.JoinedTies
import Derived.KernelRfl
namespace Go.Proofs.YthakhcnpiobpgaaDoor
/- THE CELL 'sum', in the pinned program and in every row, IS THE sha256 OF THE DUMP (.gsa) THAT YthakhcnpiobpgaaDoorProg.lean LOADS. Nothing in Lean hashes anything: it is a label: what it is worth is what the hold of that sum in a sandbox is worth. -/
noncomputable def Tryd.pinned : Pinned := { name := "ythakhcnpiobpgaadoor", sum := "4c196274cd49096d04ed62ce00b3bb6e79b0b824214210e59885130b5691d758", checked := Tryd.checked }
namespace Rows
def none {H : Type} : Left H := { results := [], args := [] }

/- WHAT THE LISTED PACKAGE-LEVEL VARIABLES READ AS WHEN THE CALL BEGINS. Each datum BY PROGRAM (the guide's laid-datum.mjs) off the statement by which the dump's own 'gosem.cut.vars' lays the variable. In a bare row this is a premise. The card (YthakhcnpiobpgaaDoorCards.lean) ties it to the program's text. -/
def laid_wageoffice_calendar_before {H : Type} : DataW H := .agg [.lit (.int .i64 0), .lit (.int .i64 31), .lit (.int .i64 59), .lit (.int .i64 90), .lit (.int .i64 120), .lit (.int .i64 151), .lit (.int .i64 181), .lit (.int .i64 212), .lit (.int .i64 243), .lit (.int .i64 273), .lit (.int .i64 304), .lit (.int .i64 334), .lit (.int .i64 365)]

/-- 'wageofficelaw02.CalendarMatchesReference': WHATEVER THE INPUT: true; the input reads as it did. -/
def calendarMatchesReferenceSpec : ChangeSpec := { name := "calendarMatchesReference", fn := fun _ => fun
  | [d1, d2, d3, d4] => { results := [.lit (.bool true)], args := [d1, d2, d3, d4] }
  | _ => none }
def calendarMatchesReferenceRow : OpenClaim := { program := "ythakhcnpiobpgaadoor", sum := "4c196274cd49096d04ed62ce00b3bb6e79b0b824214210e59885130b5691d758", func := "wageoffice/wageofficelaw02.CalendarMatchesReference", spec := "calendarMatchesReference", named := ["wageoffice/calendar.before"], apart := false, laid := [("wageoffice/calendar.before", laid_wageoffice_calendar_before)] }
def CalendarMatchesReferenceSaid : Prop := calendarMatchesReferenceRow.holds Tryd.pinned (OpenSpec.ofChange calendarMatchesReferenceSpec)

/-- ITS FALSE NEIGHBOUR: 'it returns false'. Refute it at one input. -/
def calendarMatchesReferenceWrong : ChangeSpec := { name := "calendarMatchesReference", fn := fun _ => fun
  | [d1, d2, d3, d4] => { results := [.lit (.bool false)], args := [d1, d2, d3, d4] }
  | _ => none }
def CalendarMatchesReferenceWrongFalsely : Prop := calendarMatchesReferenceRow.holds Tryd.pinned (OpenSpec.ofChange calendarMatchesReferenceWrong)

/-- 'wageofficelaw02.CalendarInverse': WHATEVER THE INPUT: true; the input reads as it did. -/
def calendarInverseSpec : ChangeSpec := { name := "calendarInverse", fn := fun _ => fun
  | [d1, d2, d3] => { results := [.lit (.bool true)], args := [d1, d2, d3] }
  | _ => none }
def calendarInverseRow : OpenClaim := { program := "ythakhcnpiobpgaadoor", sum := "4c196274cd49096d04ed62ce00b3bb6e79b0b824214210e59885130b5691d758", func := "wageoffice/wageofficelaw02.CalendarInverse", spec := "calendarInverse", named := ["wageoffice/calendar.before"], apart := false, laid := [("wageoffice/calendar.before", laid_wageoffice_calendar_before)] }
def CalendarInverseSaid : Prop := calendarInverseRow.holds Tryd.pinned (OpenSpec.ofChange calendarInverseSpec)

/-- ITS FALSE NEIGHBOUR: 'it returns false'. Refute it at one input. -/
def calendarInverseWrong : ChangeSpec := { name := "calendarInverse", fn := fun _ => fun
  | [d1, d2, d3] => { results := [.lit (.bool false)], args := [d1, d2, d3] }
  | _ => none }
def CalendarInverseWrongFalsely : Prop := calendarInverseRow.holds Tryd.pinned (OpenSpec.ofChange calendarInverseWrong)

/-- 'wageofficelaw02.CalendarNext': WHATEVER THE INPUT: true; the input reads as it did. -/
def calendarNextSpec : ChangeSpec := { name := "calendarNext", fn := fun _ => fun
  | [d] => { results := [.lit (.bool true)], args := [d] }
  | _ => none }
def calendarNextRow : OpenClaim := { program := "ythakhcnpiobpgaadoor", sum := "4c196274cd49096d04ed62ce00b3bb6e79b0b824214210e59885130b5691d758", func := "wageoffice/wageofficelaw02.CalendarNext", spec := "calendarNext", named := ["wageoffice/calendar.before"], apart := false, laid := [("wageoffice/calendar.before", laid_wageoffice_calendar_before)] }
def CalendarNextSaid : Prop := calendarNextRow.holds Tryd.pinned (OpenSpec.ofChange calendarNextSpec)

/-- ITS FALSE NEIGHBOUR: 'it returns false'. Refute it at one input. -/
def calendarNextWrong : ChangeSpec := { name := "calendarNext", fn := fun _ => fun
  | [d] => { results := [.lit (.bool false)], args := [d] }
  | _ => none }
def CalendarNextWrongFalsely : Prop := calendarNextRow.holds Tryd.pinned (OpenSpec.ofChange calendarNextWrong)

/-- 'wageofficelaw02.CalendarMonths': WHATEVER THE INPUT: true; the input reads as it did. -/
def calendarMonthsSpec : ChangeSpec := { name := "calendarMonths", fn := fun _ => fun
  | [d1, d2] => { results := [.lit (.bool true)], args := [d1, d2] }
  | _ => none }
def calendarMonthsRow : OpenClaim := { program := "ythakhcnpiobpgaadoor", sum := "4c196274cd49096d04ed62ce00b3bb6e79b0b824214210e59885130b5691d758", func := "wageoffice/wageofficelaw02.CalendarMonths", spec := "calendarMonths", named := ["wageoffice/calendar.before"], apart := false, laid := [("wageoffice/calendar.before", laid_wageoffice_calendar_before)] }
def CalendarMonthsSaid : Prop := calendarMonthsRow.holds Tryd.pinned (OpenSpec.ofChange calendarMonthsSpec)

/-- ITS FALSE NEIGHBOUR: 'it returns false'. Refute it at one input. -/
def calendarMonthsWrong : ChangeSpec := { name := "calendarMonths", fn := fun _ => fun
  | [d1, d2] => { results := [.lit (.bool false)], args := [d1, d2] }
  | _ => none }
def CalendarMonthsWrongFalsely : Prop := calendarMonthsRow.holds Tryd.pinned (OpenSpec.ofChange calendarMonthsWrong)

/-- 'wageofficelaw02.CalendarLater': WHATEVER THE INPUT: true; the input reads as it did. -/
def calendarLaterSpec : ChangeSpec := { name := "calendarLater", fn := fun _ => fun
  | [d1, d2, d3] => { results := [.lit (.bool true)], args := [d1, d2, d3] }
  | _ => none }
def calendarLaterRow : OpenClaim := { program := "ythakhcnpiobpgaadoor", sum := "4c196274cd49096d04ed62ce00b3bb6e79b0b824214210e59885130b5691d758", func := "wageoffice/wageofficelaw02.CalendarLater", spec := "calendarLater", named := ["wageoffice/calendar.before"], apart := false, laid := [("wageoffice/calendar.before", laid_wageoffice_calendar_before)] }
def CalendarLaterSaid : Prop := calendarLaterRow.holds Tryd.pinned (OpenSpec.ofChange calendarLaterSpec)

/-- ITS FALSE NEIGHBOUR: 'it returns false'. Refute it at one input. -/
def calendarLaterWrong : ChangeSpec := { name := "calendarLater", fn := fun _ => fun
  | [d1, d2, d3] => { results := [.lit (.bool false)], args := [d1, d2, d3] }
  | _ => none }
def CalendarLaterWrongFalsely : Prop := calendarLaterRow.holds Tryd.pinned (OpenSpec.ofChange calendarLaterWrong)

/-- 'wageofficelaw02.CalendarOutside': WHATEVER THE INPUT: true; the input reads as it did. -/
def calendarOutsideSpec : ChangeSpec := { name := "calendarOutside", fn := fun _ => fun
  | [d1, d2, d3, d4] => { results := [.lit (.bool true)], args := [d1, d2, d3, d4] }
  | _ => none }
def calendarOutsideRow : OpenClaim := { program := "ythakhcnpiobpgaadoor", sum := "4c196274cd49096d04ed62ce00b3bb6e79b0b824214210e59885130b5691d758", func := "wageoffice/wageofficelaw02.CalendarOutside", spec := "calendarOutside", named := ["wageoffice/calendar.before"], apart := false, laid := [("wageoffice/calendar.before", laid_wageoffice_calendar_before)] }
def CalendarOutsideSaid : Prop := calendarOutsideRow.holds Tryd.pinned (OpenSpec.ofChange calendarOutsideSpec)

/-- ITS FALSE NEIGHBOUR: 'it returns false'. Refute it at one input. -/
def calendarOutsideWrong : ChangeSpec := { name := "calendarOutside", fn := fun _ => fun
  | [d1, d2, d3, d4] => { results := [.lit (.bool false)], args := [d1, d2, d3, d4] }
  | _ => none }
def CalendarOutsideWrongFalsely : Prop := calendarOutsideRow.holds Tryd.pinned (OpenSpec.ofChange calendarOutsideWrong)

/- THE SECOND FORM. 'bulk': how many values and letters a reading holds, each counted each time it is reached (what is shared counts as often as it is met; a slice's spare places count too). A statement '..UptoSaid' is the law's where the arguments, and the package variables that the reading takes, are together of bulk at most 1048576: NARROWER than '..Said'. Prove '..Said' where nothing that the law and all that it calls make is longer than what came in: it says more and counts as full. Else prove '..UptoSaid'. A law counts once. -/
mutual
def uptoBulk {H : Type} : DataW H → Nat
  | .lit (.string bytes) => bytes.length + 1
  | .lit _ => 1
  | .nil => 1
  | .ptr d => uptoBulk d + 1
  | .slice elems spare => uptoBulkAll elems + uptoBulkAll spare + 1
  | .agg parts => uptoBulkAll parts + 1
  | .iface _ d => uptoBulk d + 1
  | .map entries => uptoBulkEntries entries + 1
  | .held _ => 1
def uptoBulkAll {H : Type} : List (DataW H) → Nat
  | [] => 0
  | d :: r => uptoBulk d + uptoBulkAll r
def uptoBulkEntries {H : Type} : List (Lit × DataW H) → Nat
  | [] => 0
  | x :: r => uptoBulkEntry x + uptoBulkEntries r
def uptoBulkEntry {H : Type} : Lit × DataW H → Nat
  | (.string bytes, d) => bytes.length + uptoBulk d + 1
  | (_, d) => uptoBulk d + 1
 end
def uptoSmall : (H : Type) → List (DataW H) → Bool := fun _ ds => decide (uptoBulkAll ds ≤ 1048576)
def OpenSpec.upto (s : _root_.Go.ChangeSpec) : _root_.Go.OpenSpec := { _root_.Go.OpenSpec.ofChange s with cond := some uptoSmall }

/-- 'wageofficelaw02.CalendarMatchesReference', WHERE WHAT IT READS IS OF BULK AT MOST 1048576: true; the input reads as it did. -/
def calendarMatchesReferenceUptoRow : OpenClaim := { program := "ythakhcnpiobpgaadoor", sum := "4c196274cd49096d04ed62ce00b3bb6e79b0b824214210e59885130b5691d758", func := "wageoffice/wageofficelaw02.CalendarMatchesReference", spec := "calendarMatchesReference", named := ["wageoffice/calendar.before"], apart := false, laid := [("wageoffice/calendar.before", laid_wageoffice_calendar_before)], narrowed := true }
def CalendarMatchesReferenceUptoSaid : Prop := calendarMatchesReferenceUptoRow.holds Tryd.pinned (OpenSpec.upto calendarMatchesReferenceSpec)

/-- 'wageofficelaw02.CalendarInverse', WHERE WHAT IT READS IS OF BULK AT MOST 1048576: true; the input reads as it did. -/
def calendarInverseUptoRow : OpenClaim := { program := "ythakhcnpiobpgaadoor", sum := "4c196274cd49096d04ed62ce00b3bb6e79b0b824214210e59885130b5691d758", func := "wageoffice/wageofficelaw02.CalendarInverse", spec := "calendarInverse", named := ["wageoffice/calendar.before"], apart := false, laid := [("wageoffice/calendar.before", laid_wageoffice_calendar_before)], narrowed := true }
def CalendarInverseUptoSaid : Prop := calendarInverseUptoRow.holds Tryd.pinned (OpenSpec.upto calendarInverseSpec)

/-- 'wageofficelaw02.CalendarNext', WHERE WHAT IT READS IS OF BULK AT MOST 1048576: true; the input reads as it did. -/
def calendarNextUptoRow : OpenClaim := { program := "ythakhcnpiobpgaadoor", sum := "4c196274cd49096d04ed62ce00b3bb6e79b0b824214210e59885130b5691d758", func := "wageoffice/wageofficelaw02.CalendarNext", spec := "calendarNext", named := ["wageoffice/calendar.before"], apart := false, laid := [("wageoffice/calendar.before", laid_wageoffice_calendar_before)], narrowed := true }
def CalendarNextUptoSaid : Prop := calendarNextUptoRow.holds Tryd.pinned (OpenSpec.upto calendarNextSpec)

/-- 'wageofficelaw02.CalendarMonths', WHERE WHAT IT READS IS OF BULK AT MOST 1048576: true; the input reads as it did. -/
def calendarMonthsUptoRow : OpenClaim := { program := "ythakhcnpiobpgaadoor", sum := "4c196274cd49096d04ed62ce00b3bb6e79b0b824214210e59885130b5691d758", func := "wageoffice/wageofficelaw02.CalendarMonths", spec := "calendarMonths", named := ["wageoffice/calendar.before"], apart := false, laid := [("wageoffice/calendar.before", laid_wageoffice_calendar_before)], narrowed := true }
def CalendarMonthsUptoSaid : Prop := calendarMonthsUptoRow.holds Tryd.pinned (OpenSpec.upto calendarMonthsSpec)

/-- 'wageofficelaw02.CalendarLater', WHERE WHAT IT READS IS OF BULK AT MOST 1048576: true; the input reads as it did. -/
def calendarLaterUptoRow : OpenClaim := { program := "ythakhcnpiobpgaadoor", sum := "4c196274cd49096d04ed62ce00b3bb6e79b0b824214210e59885130b5691d758", func := "wageoffice/wageofficelaw02.CalendarLater", spec := "calendarLater", named := ["wageoffice/calendar.before"], apart := false, laid := [("wageoffice/calendar.before", laid_wageoffice_calendar_before)], narrowed := true }
def CalendarLaterUptoSaid : Prop := calendarLaterUptoRow.holds Tryd.pinned (OpenSpec.upto calendarLaterSpec)

/-- 'wageofficelaw02.CalendarOutside', WHERE WHAT IT READS IS OF BULK AT MOST 1048576: true; the input reads as it did. -/
def calendarOutsideUptoRow : OpenClaim := { program := "ythakhcnpiobpgaadoor", sum := "4c196274cd49096d04ed62ce00b3bb6e79b0b824214210e59885130b5691d758", func := "wageoffice/wageofficelaw02.CalendarOutside", spec := "calendarOutside", named := ["wageoffice/calendar.before"], apart := false, laid := [("wageoffice/calendar.before", laid_wageoffice_calendar_before)], narrowed := true }
def CalendarOutsideUptoSaid : Prop := calendarOutsideUptoRow.holds Tryd.pinned (OpenSpec.upto calendarOutsideSpec)

end Rows
end Go.Proofs.YthakhcnpiobpgaaDoor
