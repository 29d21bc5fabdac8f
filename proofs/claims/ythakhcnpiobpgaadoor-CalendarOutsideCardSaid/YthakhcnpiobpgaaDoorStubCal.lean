/- The contracts of package calendar in the printed form. -/
import Derived.Test.YthakhcnpiobpgaaDoorCalB
namespace Go.Proofs.YthakhcnpiobpgaaDoor.Stub
open Go.RowKit Go.Proofs.YthakhcnpiobpgaaDoor Go.Proofs.YthakhcnpiobpgaaDoor.CalA
def calendar_First.f (a0 : Int) : Option Int := some (Cal.first a0)
theorem calendar_First.calls (a0 : Int) (r : Int) (w : World) (h : calendar_First.f a0 = some r) (hT : TabBefore w) :
    Calls Tryd.prog 21 #[.int .i64 a0] w fun e w' => e = .returned (.int .i64 r) ∧ Below w.heap.size w w' := by
  cases h; exact first_any a0 w hT
def calendar_Length.f (a0 : Int) : Option Int := some (Cal.len a0)
theorem calendar_Length.calls (a0 : Int) (r : Int) (w : World) (h : calendar_Length.f a0 = some r) (hT : TabBefore w) :
    Calls Tryd.prog 23 #[.int .i64 a0] w fun e w' => e = .returned (.int .i64 r) ∧ Below w.heap.size w w' := by
  cases h; exact length_any a0 w hT
def calendar_Month.f (a0 : Int) : Option Int := some (Cal.month a0)
theorem calendar_Month.calls (a0 : Int) (r : Int) (w : World) (h : calendar_Month.f a0 = some r) (hT : TabBefore w) :
    Calls Tryd.prog 17 #[.int .i64 a0] w fun e w' => e = .returned (.int .i64 r) ∧ Below w.heap.size w w' := by
  cases h; exact month_any a0 w hT
def calendar_Day.f (a0 a1 a2 : Int) : Option (Int × Int) := some (Cal.day a0 a1 a2)
theorem calendar_Day.calls (a0 a1 a2 : Int) (r1 r2 : Int) (w : World) (h : calendar_Day.f a0 a1 a2 = some (r1, r2)) (hT : TabBefore w) :
    Calls Tryd.prog 25 #[.int .i64 a0, .int .i64 a1, .int .i64 a2] w fun e w' => e = .returned (.tuple #[.int .i64 r1, .int .i64 r2]) ∧ Below w.heap.size w w' := by
  have e : Cal.day a0 a1 a2 = (r1, r2) := Option.some.inj h
  have := CalB.day_any a0 a1 a2 w hT
  rw [e] at this
  exact this
def calendar_Parse.f (a0 : ByteArray) : Option (Int × Int) := some (Cal.parse a0)
theorem calendar_Parse.calls (a0 : ByteArray) (r1 r2 : Int) (w : World) (h : calendar_Parse.f a0 = some (r1, r2)) (hT : TabBefore w) :
    Calls Tryd.prog 27 #[.string a0] w fun e w' => e = .returned (.tuple #[.int .i64 r1, .int .i64 r2]) ∧ Below w.heap.size w w' := by
  have e : Cal.parse a0 = (r1, r2) := Option.some.inj h
  have := CalB.parse_any a0 w hT
  rw [e] at this
  exact this
end Go.Proofs.YthakhcnpiobpgaaDoor.Stub
