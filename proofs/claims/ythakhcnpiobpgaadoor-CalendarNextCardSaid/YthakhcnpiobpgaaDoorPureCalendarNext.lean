/- The law CalendarNext, said of the printed functions. -/
import Derived.Test.YthakhcnpiobpgaaDoorPureRef02
namespace Go.Proofs.YthakhcnpiobpgaaDoor.PureCalendarNext
open Go.RowKit Go.Proofs.YthakhcnpiobpgaaDoor Go.Proofs.YthakhcnpiobpgaaDoor.PAll Go.Proofs.YthakhcnpiobpgaaDoorW.PrintWords Go.Proofs.YthakhcnpiobpgaaDoorW.PrintMore Go.Proofs.YthakhcnpiobpgaaDoor.Stub
open Go.Proofs.YthakhcnpiobpgaaDoor.Cal Go.Proofs.YthakhcnpiobpgaaDoor.CalA Go.Proofs.YthakhcnpiobpgaaDoor.PureRef02

theorem next_month {n : Int} (h0 : 0 ≤ n) (h1 : n < 36524) : month (n + 1) = month n ∨ (month (n + 1) = month n + 1 ∧ n + 1 = first (month n) + len (month n) ∧ first (month n + 1) = n + 1 ∧ month n + 1 ≤ 1199) := by
  obtain ⟨p0, p1, p2, p3⟩ := month_spec h0 (by omega : n ≤ 36524)
  obtain ⟨q0, q1, q2, q3⟩ := month_spec (d := n + 1) (by omega) (by omega)
  rcases Int.lt_or_le (n + 1) (first (month n) + len (month n)) with h | h
  · exact .inl (month_uniq (by omega) (by omega) p0 p1 (by omega) h)
  · have hm : month n < 1199 := by
      by_cases e : month n = 1199
      · rw [e, first_end] at h; omega
      · omega
    have fs := first_step p0 hm
    have lr := len_range (m := month n + 1) (by omega) (by omega)
    exact .inr ⟨month_uniq (by omega) (by omega) (by omega) (by omega) (by omega) (by omega), by omega, by omega, by omega⟩
theorem holds (a0 : Int) (w0 : (Lit.int .i64 a0).wf = true) : ∃ k, wageofficelaw02_CalendarNext.f k a0 = some true := by
  refine ⟨9, ?_⟩
  have b0 := bounds_i64 w0
  unfold wageofficelaw02_CalendarNext.f
  rw [head_eq _ (by omega), Option.bind_some, pick_f _ _ b0.1 b0.2 (by decide), Option.bind_some]
  have hn := pk_range a0 36524 (by decide)
  generalize pk a0 36524 = n at *
  obtain ⟨h0, h1⟩ := hn
  obtain ⟨p0, p1, p2, p3⟩ := month_spec h0 (by omega : n ≤ 36524)
  have fb := first_bound p0 p1
  have lr := len_range p0 p1
  rw [date_f, Option.bind_some, wrap64_id (x := n + 1) (by omega) (by omega), date_f, Option.bind_some, wd_f, Option.bind_some, wd_f, Option.bind_some]
  have hw : wd n ≥ 1 ∧ wd n ≤ 7 ∧ wd (n + 1) = wrap64 (Int.tmod (wd n) 7 + 1) := by
    unfold wd
    rw [if_pos ((okD_iff n).2 ⟨h0, by omega⟩), if_pos ((okD_iff (n + 1)).2 ⟨by omega, by omega⟩), Int.tmod_eq_emod_of_nonneg (by omega), wrap64_id (by omega) (by omega)]
    omega
  obtain ⟨w1, w2, w3⟩ := hw
  generalize wd n = u at *
  generalize wd (n + 1) = v at *
  have nm := next_month h0 h1
  rw [date_ok h0 (by omega), date_ok (n := n + 1) (by omega) (by omega)]
  dsimp only
  rcases nm with e | ⟨e, e2, e3, e4⟩
  · simp only [calendar_Month.f, Option.bind_some]
    rw [e]
    rw [if_pos rfl, if_pos rfl, if_pos (by rw [wrap64_id (by omega) (by omega)]; omega), beq_self_eq_true]
    rw [wageofficelaw02_CalendarNext.j0, if_neg (by omega), if_pos rfl, if_pos rfl, if_pos w1, if_pos w2, ← w3, beq_self_eq_true]
  · rw [e, e3]
    have e5 : n + 1 - (n + 1) + 1 = 1 := by omega
    rw [e5]
    have x1 : wrap64 (n - first (month n) + 1 + 1) = n - first (month n) + 1 + 1 := wrap64_id (by omega) (by omega)
    have x2 : wrap64 (month n % 12 + 1 + 1) = month n % 12 + 1 + 1 := wrap64_id (by omega) (by omega)
    have x3 : wrap64 (2000 + month n / 12 + 1) = 2000 + month n / 12 + 1 := wrap64_id (by omega) (by omega)
    have x4 : wrap64 (month n + 1) = month n + 1 := wrap64_id (by omega) (by omega)
    have x5 : wrap64 (n + 1) = n + 1 := wrap64_id (by omega) (by omega)
    rw [x1]
    by_cases hc : (month n + 1) % 12 = 0
    · rw [if_neg (by omega), wageofficelaw02_CalendarNext.j0, if_pos rfl, if_neg (by omega), x3, if_pos (by omega), if_pos (by omega), if_pos (by omega)]
      simp only [calendar_Month.f, calendar_Length.f, Option.bind_some]
      rw [x5, e, x4, if_pos rfl, if_pos trivial, if_neg (by decide), if_pos (by omega), if_pos w1, if_pos w2, ← w3, beq_self_eq_true]
    · rw [if_pos (by omega), if_neg (by omega), wageofficelaw02_CalendarNext.j0, if_pos rfl, if_pos (by omega), x2, if_pos (by omega)]
      simp only [calendar_Month.f, calendar_Length.f, Option.bind_some]
      rw [x5, e, x4, if_pos rfl, if_pos trivial, if_neg (by decide), if_pos (by omega), if_pos w1, if_pos w2, ← w3, beq_self_eq_true]
end Go.Proofs.YthakhcnpiobpgaaDoor.PureCalendarNext
