/- The law CalendarMatchesReference, said of the printed functions. -/
import Derived.Test.YthakhcnpiobpgaaDoorPureParse02
import Derived.Test.YthakhcnpiobpgaaDoorPAllx5
namespace Go.Proofs.YthakhcnpiobpgaaDoor.PureCalendarMatchesReference
open Go.RowKit Go.Proofs.YthakhcnpiobpgaaDoor Go.Proofs.YthakhcnpiobpgaaDoor.PAll Go.Proofs.YthakhcnpiobpgaaDoorW.PrintWords Go.Proofs.YthakhcnpiobpgaaDoorW.PrintMore Go.Proofs.YthakhcnpiobpgaaDoor.Stub
open Go.Proofs.YthakhcnpiobpgaaDoor.Cal Go.Proofs.YthakhcnpiobpgaaDoor.CalA Go.Proofs.YthakhcnpiobpgaaDoor.PureRef02 Go.Proofs.YthakhcnpiobpgaaDoor.PureRefB02 Go.Proofs.YthakhcnpiobpgaaDoor.PureText02 Go.Proofs.YthakhcnpiobpgaaDoor.PureParse02

theorem Text_f2 (k : Nat) (hk : 5 ≤ k) (n : Int) : calendar_Text.f k n = some (text n) := by
  obtain ⟨j, rfl⟩ : ∃ j, k = j + 5 := ⟨k - 5, by omega⟩
  exact Text_f j n
theorem turn0 (k : Nat) (hk : 1215 ≤ k) (m : Int) (s : ByteArray) (xs : List Int) (i d0 d1 d2 : Int) (i0 : 0 ≤ i) (i1 : i < (xs.length : Int)) (hl : xs.length ≤ 2) :
    wageofficelaw02_CalendarMatchesReference.l0 (k + 2) m s true xs (xs.length : Int) i d0 d1 d2 = wageofficelaw02_CalendarMatchesReference.l0 k m s true xs (xs.length : Int) (i + 1) d0 d1 d2 := by
  rw [wageofficelaw02_CalendarMatchesReference.l0, if_pos i1, if_pos i0, if_pos i1]
  generalize rd xs i = n
  rw [date_f, Option.bind_some, Date_f (k + 1) (by omega), Option.bind_some, later_f, Option.bind_some, Later_f (k + 1) (by omega), Option.bind_some]
  rw [if_pos rfl, if_pos rfl, if_pos rfl, if_pos rfl, if_pos rfl, if_pos rfl, wd_f, Option.bind_some, Weekday_f, Option.bind_some, if_pos rfl, calendar_Month.f, Option.bind_some, Month_f (k + 1) (by omega), Option.bind_some, if_pos rfl]
  rw [Text_f2 (k + 1) (by omega), Option.bind_some, rText_f (k + 1) (by omega), Option.bind_some, beq_self_eq_true]
  obtain ⟨j, rfl⟩ : ∃ j, k = j + 1 := ⟨k - 1, by omega⟩
  rw [wageofficelaw02_CalendarMatchesReference.j1, if_pos rfl, calendar_First.f, Option.bind_some, First_f (j + 1) (by omega), Option.bind_some, if_pos rfl, calendar_Length.f, Option.bind_some, Length_f, Option.bind_some, beq_self_eq_true, wrap64_id (by omega) (by omega)]
theorem turn1 (k : Nat) (hk : 1215 ≤ k) (m : Int) (s : ByteArray) (xs : List S22) (i : Int) (i0 : 0 ≤ i) (i1 : i < (xs.length : Int)) (hl : xs.length ≤ 2) (hd : (rd_T22 xs i).f2 ≤ 9223372036854775807) :
    wageofficelaw02_CalendarMatchesReference.l1 (k + 1) m s true xs (xs.length : Int) i = wageofficelaw02_CalendarMatchesReference.l1 k m s true xs (xs.length : Int) (i + 1) := by
  rw [wageofficelaw02_CalendarMatchesReference.l1, if_pos i1, if_pos i0, if_pos i1]
  rw [calendar_Day.f, Option.bind_some, Day_f k (by omega) _ _ _ hd, Option.bind_some, if_pos rfl, if_pos rfl, beq_self_eq_true, wrap64_id (by omega) (by omega)]
theorem holds (a0 a1_0 a1_1 a1_2 a2 : Int) (a3 : ByteArray) (w0 : (Lit.int .i64 a0).wf = true) (w1_0 : (Lit.int .i64 a1_0).wf = true) (w1_1 : (Lit.int .i64 a1_1).wf = true) (w1_2 : (Lit.int .i64 a1_2).wf = true) (w2 : (Lit.int .i64 a2).wf = true) (w3 : a3.size ≤ 140737488351232) :
    ∃ k, wageofficelaw02_CalendarMatchesReference.f k a0 a1_0 a1_1 a1_2 a2 a3 = some true := by
  refine ⟨1300, ?_⟩
  have b0 := bounds_i64 w0
  have b10 := bounds_i64 w1_0
  have b11 := bounds_i64 w1_1
  have b12 := bounds_i64 w1_2
  have b2 := bounds_i64 w2
  unfold wageofficelaw02_CalendarMatchesReference.f
  rw [head_eq _ (by omega), Option.bind_some, pick_f _ _ b0.1 b0.2 (by decide), Option.bind_some, Option.bind_some]
  rw [turn0 1298 (by omega) a2 a3 [a0, pk a0 36525] 0 _ _ _ (by decide) (by simp) (by simp)]
  rw [turn0 1296 (by omega) a2 a3 [a0, pk a0 36525] (0 + 1) _ _ _ (by decide) (by simp) (by simp)]
  rw [wageofficelaw02_CalendarMatchesReference.l0, if_neg (by simp)]
  rw [pick_f _ _ b10.1 b10.2 (by decide), Option.bind_some, pick_f _ _ b11.1 b11.2 (by decide), Option.bind_some, pick_f _ _ b12.1 b12.2 (by decide), Option.bind_some, Option.bind_some]
  have r33 := pk_range a1_2 33 (by decide)
  generalize pk a1_2 33 = c2 at *
  generalize pk a1_1 14 = c1 at *
  generalize wrap64 (2000 + pk a1_0 101) = c0 at *
  rw [turn1 1294 (by omega) a2 a3 [(⟨a1_0, a1_1, a1_2⟩ : S22), (⟨c0, c1, c2⟩ : S22)] 0 (by decide) (by simp) (by simp) (by show a1_2 ≤ _; omega)]
  rw [turn1 1293 (by omega) a2 a3 [(⟨a1_0, a1_1, a1_2⟩ : S22), (⟨c0, c1, c2⟩ : S22)] (0 + 1) (by decide) (by simp) (by simp) (by show c2 ≤ _; omega)]
  rw [wageofficelaw02_CalendarMatchesReference.l1, if_neg (by simp)]
  have hmn : 0 ≤ mn (a3.size : Int) 30 ∧ mn (a3.size : Int) 30 ≤ (a3.size : Int) := by unfold mn; split <;> omega
  rw [if_pos hmn.1, if_pos hmn.2, calendar_Parse.f, Option.bind_some, Parse_f _ (by omega), Option.bind_some, pick_f _ _ b2.1 b2.2 (by decide), Option.bind_some]
  rw [if_pos rfl, if_pos rfl, if_pos rfl, calendar_First.f, Option.bind_some, First_f _ (by omega), Option.bind_some, if_pos rfl, calendar_Length.f, Option.bind_some, Length_f, Option.bind_some, beq_self_eq_true]
end Go.Proofs.YthakhcnpiobpgaaDoor.PureCalendarMatchesReference
