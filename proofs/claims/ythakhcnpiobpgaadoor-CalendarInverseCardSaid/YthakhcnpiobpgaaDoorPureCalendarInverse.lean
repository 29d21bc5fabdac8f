/- The law CalendarInverse, said of the printed functions. -/
import Derived.Test.YthakhcnpiobpgaaDoorPureInv02
import Derived.Test.YthakhcnpiobpgaaDoorPAllx90
namespace Go.Proofs.YthakhcnpiobpgaaDoor.PureCalendarInverse
open Go.RowKit Go.Proofs.YthakhcnpiobpgaaDoor Go.Proofs.YthakhcnpiobpgaaDoor.PAll Go.Proofs.YthakhcnpiobpgaaDoorW.PrintWords Go.Proofs.YthakhcnpiobpgaaDoorW.PrintMore Go.Proofs.YthakhcnpiobpgaaDoor.Stub
open Go.Proofs.YthakhcnpiobpgaaDoor.Cal Go.Proofs.YthakhcnpiobpgaaDoor.CalA Go.Proofs.YthakhcnpiobpgaaDoor.PureRef02 Go.Proofs.YthakhcnpiobpgaaDoor.PureText02 Go.Proofs.YthakhcnpiobpgaaDoor.PureInv02

theorem Text_f2 (k : Nat) (hk : 5 ≤ k) (n : Int) : calendar_Text.f k n = some (text n) := by
  obtain ⟨j, rfl⟩ : ∃ j, k = j + 5 := ⟨k - 5, by omega⟩
  exact Text_f j n
theorem holds (a0 a1 a2_0 a2_1 a2_2 : Int) (w0 : (Lit.int .i64 a0).wf = true) (w1 : (Lit.int .i64 a1).wf = true) (w2_0 : (Lit.int .i64 a2_0).wf = true) (w2_1 : (Lit.int .i64 a2_1).wf = true) (w2_2 : (Lit.int .i64 a2_2).wf = true) :
    ∃ k, wageofficelaw02_CalendarInverse.f k a0 a1 a2_0 a2_1 a2_2 = some true := by
  refine ⟨9, ?_⟩
  have b0 := bounds_i64 w0
  have b1 := bounds_i64 w1
  have b20 := bounds_i64 w2_0
  have b21 := bounds_i64 w2_1
  have b22 := bounds_i64 w2_2
  unfold wageofficelaw02_CalendarInverse.f CI.f
  rw [head_eq _ (by omega), Option.bind_some, pick_f _ _ b0.1 b0.2 (by decide), Option.bind_some, pick_f _ _ b1.1 b1.2 (by decide), Option.bind_some]
  have hn := pk_range a0 36525 (by decide)
  have hk := pk_range a1 36525 (by decide)
  generalize pk a0 36525 = n at *
  generalize pk a1 36525 = k at *
  obtain ⟨h0, h1⟩ := hn
  obtain ⟨k0, k1⟩ := hk
  have hs := text_size h0 (by omega : n ≤ 36524)
  rw [date_f, Option.bind_some, calendar_Day.f, Option.bind_some, day_date h0 (by omega), Text_f2 _ (by omega), Option.bind_some, calendar_Parse.f, Option.bind_some, parse_text h0 (by omega)]
  dsimp only
  rw [if_pos rfl, if_pos rfl, if_pos rfl, if_pos rfl, if_pos rfl, if_pos (by omega), Text_f2 _ (by omega), Option.bind_some, text_eq h0 (by omega) k0 (by omega), beq_self_eq_true, if_pos rfl, Option.bind_some, text_less h0 (by omega) k0 (by omega), beq_self_eq_true]
  rw [CI.j0, pick_f _ _ b20.1 b20.2 (by decide), Option.bind_some, pick_f _ _ b21.1 b21.2 (by decide), Option.bind_some, pick_f _ _ b22.1 b22.2 (by decide), Option.bind_some, calendar_Day.f, Option.bind_some]
  have hy := date_day (wrap64 (1999 + pk a2_0 102)) (pk a2_1 14) (pk a2_2 33)
  generalize wrap64 (1999 + pk a2_0 102) = y at *
  generalize pk a2_1 14 = m at *
  generalize pk a2_2 33 = d at *
  rcases hy with e | ⟨e1, e2, e3, e4⟩
  · rw [e]
    rfl
  · rw [if_pos e1, date_f, Option.bind_some, e4]
    dsimp only
    rw [if_pos rfl, if_pos rfl, if_pos rfl, beq_self_eq_true]
end Go.Proofs.YthakhcnpiobpgaaDoor.PureCalendarInverse
