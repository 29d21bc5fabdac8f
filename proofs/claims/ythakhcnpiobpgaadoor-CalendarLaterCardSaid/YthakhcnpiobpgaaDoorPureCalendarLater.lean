/- The law CalendarLater, said of the printed functions. -/
import Derived.Test.YthakhcnpiobpgaaDoorPureRef02
namespace Go.Proofs.YthakhcnpiobpgaaDoor.PureCalendarLater
open Go.RowKit Go.Proofs.YthakhcnpiobpgaaDoor Go.Proofs.YthakhcnpiobpgaaDoor.PAll Go.Proofs.YthakhcnpiobpgaaDoorW.PrintWords Go.Proofs.YthakhcnpiobpgaaDoorW.PrintMore Go.Proofs.YthakhcnpiobpgaaDoor.Stub
open Go.Proofs.YthakhcnpiobpgaaDoor.Cal Go.Proofs.YthakhcnpiobpgaaDoor.CalA Go.Proofs.YthakhcnpiobpgaaDoor.PureRef02

theorem mono_later {n k m : Int} (n0 : 0 ≤ n) (n1 : n ≤ 36524) (k0 : 0 ≤ k) (k1 : k ≤ 36524) (m0 : 0 ≤ month n + m) (m1 : month n + m ≤ 1199) (j0 : 0 ≤ month k + m) (j1 : month k + m ≤ 1199) (h : n ≤ k) :
    first (month n + m) + mn (n - first (month n)) (len (month n + m) - 1) ≤ first (month k + m) + mn (k - first (month k)) (len (month k + m) - 1) := by
  obtain ⟨p0, p1, p2, p3⟩ := month_spec n0 n1
  obtain ⟨q0, q1, q2, q3⟩ := month_spec k0 k1
  have hle : month n ≤ month k := by
    rcases Int.lt_or_le (month k) (month n) with e | e
    · have := end_le q0 e p1; omega
    · exact e
  by_cases e : month n = month k
  · rw [e] at *
    unfold mn; split <;> split <;> omega
  · have := end_le m0 (b := month k + m) (by omega) j1
    have lr := len_range m0 m1
    have lk := len_range j0 j1
    unfold mn; split <;> split <;> omega
theorem holds (a0 a1 a2 : Int) (w0 : (Lit.int .i64 a0).wf = true) (w1 : (Lit.int .i64 a1).wf = true) (w2 : (Lit.int .i64 a2).wf = true) : ∃ k, wageofficelaw02_CalendarLater.f k a0 a1 a2 = some true := by
  refine ⟨9, ?_⟩
  have b0 := bounds_i64 w0
  have b1 := bounds_i64 w1
  have b2 := bounds_i64 w2
  unfold wageofficelaw02_CalendarLater.f
  rw [head_eq _ (by omega), Option.bind_some, pick_f _ _ b0.1 b0.2 (by decide), Option.bind_some, pick_f _ _ b1.1 b1.2 (by decide), Option.bind_some, pick_f _ _ b2.1 b2.2 (by decide), Option.bind_some]
  have hn := pk_range a0 36525 (by decide)
  have hk := pk_range a1 36525 (by decide)
  have hm := pk_range a2 2399 (by decide)
  generalize pk a0 36525 = n at *
  generalize pk a1 36525 = k at *
  generalize pk a2 2399 = c at *
  clear b0 b1 b2 w0 w1 w2
  obtain ⟨h0, h1⟩ := hn
  obtain ⟨k0, k1⟩ := hk
  obtain ⟨p0, p1, p2, p3⟩ := month_spec h0 (by omega : n ≤ 36524)
  rw [wrap64_id (x := c - 1199) (by omega) (by omega), calendar_Month.f, Option.bind_some, later_f, Option.bind_some, later_f, Option.bind_some]
  obtain ⟨m, rfl⟩ : ∃ m, c = m + 1199 := ⟨c - 1199, by omega⟩
  rw [show m + 1199 - 1199 = m by omega]
  rw [wrap64_id (x := month n + m) (by omega) (by omega)]
  by_cases ht : month n + m < 0 ∨ month n + m > 1199
  · have hl : later n m = (0, 21) := by
      unfold later
      rw [if_neg (fun e => by have := (okM_iff _).1 e.2.2; omega)]
    have hj : wageofficelaw02_CalendarLater.j0 9 true n k (month n + m) (later n m).1 (later n m).2 (later k m).1 (later k m).2 true = some true := by
      rw [hl, wageofficelaw02_CalendarLater.j0]
      rfl
    by_cases c1 : month n + m < 0
    · rw [if_pos c1]; exact hj
    · rw [if_neg c1, show decide (month n + m > 1199) = true by rw [decide_eq_true_eq]; omega]; exact hj
  · obtain ⟨m0, m1⟩ : 0 ≤ month n + m ∧ month n + m ≤ 1199 := by omega
    rw [if_neg (by omega), show decide (month n + m > 1199) = false by rw [decide_eq_false_iff_not]; omega]
    have lr := len_range m0 m1
    have fb := first_bound m0 m1
    have eb := end_bound m0 m1
    have hl : later n m = (first (month n + m) + mn (n - first (month n)) (len (month n + m) - 1), 0) := by
      unfold later
      rw [if_pos ⟨(okD_iff _).2 ⟨h0, by omega⟩, ⟨by omega, by omega⟩, (okM_iff _).2 ⟨m0, m1⟩⟩]
    have hmn : 0 ≤ mn (n - first (month n)) (len (month n + m) - 1) ∧ mn (n - first (month n)) (len (month n + m) - 1) ≤ len (month n + m) - 1 := by unfold mn; split <;> omega
    have hi : month (first (month n + m) + mn (n - first (month n)) (len (month n + m) - 1)) = month n + m := month_uniq (by omega) (by omega) m0 m1 (by omega) (by omega)
    have hd : first (month n + m) + mn (n - first (month n)) (len (month n + m) - 1) - first (month n + m) + 1 = mn (n - first (month n) + 1) (len (month n + m)) := by unfold mn; split <;> split <;> omega
    have HM : (later k m).2 = 0 → (n ≤ k → (later n m).1 ≤ (later k m).1) ∧ (k ≤ n → (later k m).1 ≤ (later n m).1) := by
      intro h
      unfold later at h
      split at h
      · rename_i hk3
        obtain ⟨_, _, hk4⟩ := hk3
        obtain ⟨j0, j1⟩ := (okM_iff _).1 hk4
        have e : later k m = (first (month k + m) + mn (k - first (month k)) (len (month k + m) - 1), 0) := by
          unfold later
          rw [if_pos ⟨(okD_iff _).2 ⟨k0, by omega⟩, ⟨by omega, by omega⟩, (okM_iff _).2 ⟨j0, j1⟩⟩]
        rw [hl, e]
        exact ⟨fun h => mono_later h0 (by omega) k0 (by omega) m0 m1 j0 j1 h, fun h => mono_later k0 (by omega) h0 (by omega) j0 j1 m0 m1 h⟩
      · cases h
    rw [wageofficelaw02_CalendarLater.j0, if_neg (by decide), date_f, Option.bind_some, date_f, Option.bind_some]
    generalize later k m = lk at *
    rw [hl] at HM ⊢
    simp only [if_true, calendar_Month.f, calendar_Length.f, Option.bind_some]
    rw [hi, if_pos rfl, date_ok h0 (by omega), date_ok (by omega) (by omega), hi]
    simp only [hd, if_true]
    by_cases c0 : lk.2 = 0
    · obtain ⟨x1, x2⟩ := HM c0
      rw [if_pos c0]
      by_cases c1 : n > k
      · rw [if_pos c1, if_neg (by omega)]
        have := x2 (by omega)
        simp only [ge_iff_le, this, decide_true]
      · rw [if_neg c1]
        have y1 := x1 (by omega)
        rw [if_pos y1]
        by_cases c2 : n < k
        · rw [if_pos c2]
        · rw [if_neg c2]
          have := x2 (by omega)
          simp only [ge_iff_le, this, decide_true]
    · rw [if_neg c0]
end Go.Proofs.YthakhcnpiobpgaaDoor.PureCalendarLater
