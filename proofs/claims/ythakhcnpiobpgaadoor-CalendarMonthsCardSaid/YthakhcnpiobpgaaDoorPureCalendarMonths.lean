/- The law CalendarMonths, said of the printed functions. -/
import Derived.Test.YthakhcnpiobpgaaDoorPureRef02
namespace Go.Proofs.YthakhcnpiobpgaaDoor.PureCalendarMonths
open Go.RowKit Go.Proofs.YthakhcnpiobpgaaDoor Go.Proofs.YthakhcnpiobpgaaDoor.PAll Go.Proofs.YthakhcnpiobpgaaDoorW.PrintWords Go.Proofs.YthakhcnpiobpgaaDoorW.PrintMore Go.Proofs.YthakhcnpiobpgaaDoor.Stub
open Go.Proofs.YthakhcnpiobpgaaDoor.Cal Go.Proofs.YthakhcnpiobpgaaDoor.CalA Go.Proofs.YthakhcnpiobpgaaDoor.PureRef02

/-- Lengths of successive months, added up. -/
def sumLen : Nat → Int → Int → Int → Int
  | 0, acc, _, _ => acc
  | d + 1, acc, m, j => sumLen d (acc + len (m + j)) m (j + 1)
theorem four_years : ∀ m : Nat, m < 1153 → sumLen 48 0 m 0 = 1461 := by decide +kernel
theorem loop1 (m : Int) (m0 : 0 ≤ m) (m1 : m ≤ 1152) : ∀ (d k : Nat) (acc j : Int), j + d = 48 → 0 ≤ j → d < k → 0 ≤ acc → acc ≤ 31 * j →
    wageofficelaw02_CalendarMonths.l1 k true acc m j = some (sumLen d acc m j == 1461) := by
  intro d
  induction d with
  | zero =>
    intro k acc j hj j0 hk a0 a1
    obtain ⟨k, rfl⟩ := rounds (show 0 < k by omega)
    simp only [wageofficelaw02_CalendarMonths.l1]
    rw [if_neg (by omega), if_true]
    rfl
  | succ d ih =>
    intro k acc j hj j0 hk a0 a1
    obtain ⟨k, rfl⟩ := rounds (show 0 < k by omega)
    have lr := len_range (m := m + j) (by omega) (by omega)
    simp only [wageofficelaw02_CalendarMonths.l1]
    rw [if_pos (by omega), wrap64_id (x := m + j) (by omega) (by omega)]
    simp only [calendar_Length.f, Option.bind_some]
    rw [wrap64_id (x := acc + len (m + j)) (by omega) (by omega), wrap64_id (x := j + 1) (by omega) (by omega)]
    exact ih k (acc + len (m + j)) (j + 1) (by omega) (by omega) (by omega) (by omega) (by omega)
theorem one (k : Nat) (a1 n m i l : Int) (y : List Int) (h0 : 0 ≤ n) (h1 : n ≤ 36524) (hm0 : -1 ≤ m) (hm1 : m ≤ 1200) (b : Bool) (hb : b = true ↔ (m < 0 ∨ m > 1199)) :
    wageofficelaw02_CalendarMonths.j1 (k + 1) a1 true n m y l i b = wageofficelaw02_CalendarMonths.l0 k a1 true n y l (wrap64 (i + 1)) := by
  rw [wageofficelaw02_CalendarMonths.j1]
  cases b with
  | true => rw [if_pos rfl]
  | false =>
    have hm : ¬ (m < 0 ∨ m > 1199) := fun e => by have := hb.2 e; cases this
    obtain ⟨q0, q1⟩ : 0 ≤ m ∧ m ≤ 1199 := by omega
    obtain ⟨p0, p1, p2, p3⟩ := month_spec h0 h1
    have fb := first_bound q0 q1
    have lr := len_range q0 q1
    have hiff : (month n == m) = (decide (n < first m + len m) && decide (n ≥ first m)) := by
      rw [Bool.eq_iff_iff]
      simp only [beq_iff_eq, Bool.and_eq_true, decide_eq_true_eq]
      constructor
      · rintro rfl; exact ⟨p3, p2⟩
      · rintro ⟨x, z⟩; exact month_uniq h0 h1 q0 q1 z x
    rw [if_neg (by decide)]
    simp only [calendar_First.f, calendar_Length.f, calendar_Month.f, Option.bind_some, if_true]
    rw [wrap64_id (x := first m + len m) (by omega) (by omega), wrap64_id (x := m + 1) (by omega) (by omega)]
    have hend : (m < 1199 → first (m + 1) = first m + len m) ∧ (¬ m < 1199 → first m + len m = 36525) := by
      constructor
      · intro h; exact first_step q0 h
      · intro h
        have e : m = 1199 := by omega
        rw [e]; exact first_end
    rw [hiff]
    by_cases c : n ≥ first m
    · simp only [c, decide_true, Bool.and_true, beq_self_eq_true, if_true]
      rw [if_pos (by omega)]
      by_cases c2 : m < 1199
      · rw [if_pos c2, if_pos (by omega), hend.1 c2, beq_self_eq_true]
      · rw [if_neg c2, if_pos (by omega), hend.2 c2, beq_self_eq_true]
    · simp only [c, decide_false, Bool.and_false, beq_self_eq_true, if_true, if_false]
      rw [if_pos (by omega)]
      by_cases c2 : m < 1199
      · rw [if_pos c2, if_pos (by omega), hend.1 c2, beq_self_eq_true]
      · rw [if_neg c2, if_pos (by omega), hend.2 c2, beq_self_eq_true]
theorem turn (k : Nat) (a1 n i : Int) (y : List Int) (h0 : 0 ≤ n) (h1 : n ≤ 36524) (i0 : 0 ≤ i) (i1 : i < (y.length : Int)) (i2 : y.length ≤ 2) (hm0 : -1 ≤ rd y i) (hm1 : rd y i ≤ 1200) :
    wageofficelaw02_CalendarMonths.l0 (k + 2) a1 true n y (y.length : Int) i = wageofficelaw02_CalendarMonths.l0 k a1 true n y (y.length : Int) (i + 1) := by
  rw [wageofficelaw02_CalendarMonths.l0, if_pos i1, if_pos i0, if_pos i1]
  by_cases c : rd y i < 0
  · rw [if_pos c, one k a1 n _ i _ y h0 h1 hm0 hm1 true (by simp [c]), wrap64_id (by omega) (by omega)]
  · rw [if_neg c, one k a1 n _ i _ y h0 h1 hm0 hm1 _ (by simp [c]), wrap64_id (by omega) (by omega)]
theorem holds (a0 a1 : Int) (w0 : (Lit.int .i64 a0).wf = true) (w1 : (Lit.int .i64 a1).wf = true) : ∃ k, wageofficelaw02_CalendarMonths.f k a0 a1 = some true := by
  refine ⟨54, ?_⟩
  have b0 := bounds_i64 w0
  have b1 := bounds_i64 w1
  unfold wageofficelaw02_CalendarMonths.f
  rw [head_eq _ (by omega), Option.bind_some, pick_f _ _ b0.1 b0.2 (by decide), Option.bind_some]
  have hn := pk_range a0 36525 (by decide)
  have h3 := pk_range a1 3 (by decide)
  have h12 := pk_range a1 1200 (by decide)
  have h11 := pk_range a1 1153 (by decide)
  generalize pk a0 36525 = n at *
  obtain ⟨h0, h1⟩ := hn
  obtain ⟨p0, p1, p2, p3⟩ := month_spec h0 (by omega : n ≤ 36524)
  rw [calendar_Month.f, Option.bind_some, pick_f _ _ b1.1 b1.2 (by decide), Option.bind_some, pick_f _ _ b1.1 b1.2 (by decide), Option.bind_some, Option.bind_some]
  rw [wrap64_id (x := month n + pk a1 3) (by omega) (by omega), wrap64_id (x := month n + pk a1 3 - 1) (by omega) (by omega)]
  have e0 : rd [pk a1 1200, month n + pk a1 3 - 1] 0 = pk a1 1200 := rfl
  have e1 : rd [pk a1 1200, month n + pk a1 3 - 1] 1 = month n + pk a1 3 - 1 := rfl
  rw [turn 52 a1 n 0 _ h0 (by omega) (by decide) (by simp) (by simp) (by rw [e0]; omega) (by rw [e0]; omega)]
  rw [turn 50 a1 n (0 + 1) _ h0 (by omega) (by decide) (by simp) (by simp) (by show _ ≤ rd _ 1; rw [e1]; omega) (by show rd _ 1 ≤ _; rw [e1]; omega)]
  rw [wageofficelaw02_CalendarMonths.l0, if_neg (by simp), pick_f _ _ b1.1 b1.2 (by decide), Option.bind_some]
  rw [loop1 _ h11.1 (by omega) 48 _ 0 0 (by decide) (by decide) (by decide) (by decide) (by decide)]
  have := four_years (pk a1 1153).toNat (by omega)
  rw [Int.toNat_of_nonneg h11.1] at this
  rw [this]
  rfl
end Go.Proofs.YthakhcnpiobpgaaDoor.PureCalendarMonths
