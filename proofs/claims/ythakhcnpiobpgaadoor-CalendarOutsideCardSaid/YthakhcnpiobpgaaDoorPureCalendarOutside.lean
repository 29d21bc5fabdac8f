/- The law CalendarOutside: the walk says it whole. -/
import Derived.Test.YthakhcnpiobpgaaDoorPAllx91
namespace Go.Proofs.YthakhcnpiobpgaaDoor.PureCalendarOutside
open Go.RowKit Go.Proofs.YthakhcnpiobpgaaDoor Go.Proofs.YthakhcnpiobpgaaDoor.PAll
theorem holds (a0 a1 a2 a3 : Int) (_w0 : (Lit.int .i64 a0).wf = true) (w1 : (Lit.int .i64 a1).wf = true) (w2 : (Lit.int .i64 a2).wf = true) (_w3 : (Lit.int .u8 a3).wf = true) : wageofficelaw02_CalendarOutside.f a0 a1 a2 a3 = some true := by
  have b1 := bounds_i64 w1
  have b2 := bounds_i64 w2
  unfold wageofficelaw02_CalendarOutside.f
  rw [if_pos]
  exact ⟨by simpa [i64ok] using b1, by simpa [i64ok] using b2⟩
end Go.Proofs.YthakhcnpiobpgaaDoor.PureCalendarOutside
