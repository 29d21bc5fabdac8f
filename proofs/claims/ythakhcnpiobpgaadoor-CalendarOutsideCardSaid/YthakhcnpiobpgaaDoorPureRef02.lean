/- What the printed functions of layer 2 compute, said plainly. -/
import Derived.Test.YthakhcnpiobpgaaDoorPAllx2
import Derived.OpenShut
namespace Go.Proofs.YthakhcnpiobpgaaDoor.PureRef02
open Go.RowKit Go.Proofs.YthakhcnpiobpgaaDoor Go.Proofs.YthakhcnpiobpgaaDoor.PAll Go.Proofs.YthakhcnpiobpgaaDoorW.PrintWords Go.Proofs.YthakhcnpiobpgaaDoorW.PrintMore
open Go.Proofs.YthakhcnpiobpgaaDoor.Cal Go.Proofs.YthakhcnpiobpgaaDoor.CalA Go.Proofs.YthakhcnpiobpgaaDoor.Stub

theorem rounds {k : Nat} (h : 0 < k) : ∃ m, k = m + 1 := ⟨k - 1, by omega⟩
theorem isDay_f (n : Int) : calendar_isDay.f n = some (okD n) := by
  unfold calendar_isDay.f okD
  by_cases h : 0 ≤ n
  · rw [if_pos h]; simp [h]
  · rw [if_neg h]; simp [h]
theorem isMonth_f (n : Int) : calendar_isMonth.f n = some (okM n) := by
  unfold calendar_isMonth.f okM
  by_cases h : 0 ≤ n
  · rw [if_pos h]; simp [h]
  · rw [if_neg h]; simp [h]
/-- The date of a day. -/
def date (n : Int) : Int × Int × Int := if okD n = true then (2000 + month n / 12, month n % 12 + 1, n - first (month n) + 1) else (0, 0, 0)
theorem date_ok {n : Int} (h0 : 0 ≤ n) (h1 : n ≤ 36524) : date n = (2000 + month n / 12, month n % 12 + 1, n - first (month n) + 1) := by unfold date; rw [if_pos ((okD_iff n).2 ⟨h0, h1⟩)]
theorem date_f (n : Int) : calendar_Date.f n = some (date n) := by
  unfold calendar_Date.f calendar_Month.f calendar_First.f date
  rw [Option.bind_some]
  by_cases h : okD n = true
  · obtain ⟨h0, h1⟩ := (okD_iff n).1 h
    obtain ⟨p0, p1, p2, p3⟩ := month_spec h0 h1
    have fb := first_bound p0 p1
    rw [if_neg (by omega), Option.bind_some, if_pos h, Int.tdiv_eq_ediv_of_nonneg p0, Int.tmod_eq_emod_of_nonneg p0]
    simp (disch := omega) only [wrap64_id]
  · rw [month_no (fun e => h ((okD_iff n).2 e)), if_pos (by decide), if_neg h]
/-- The same day some months later. -/
def later (n m : Int) : Int × Int := if okD n = true ∧ (-1199 ≤ m ∧ m ≤ 1199) ∧ okM (month n + m) = true then (first (month n + m) + mn (n - first (month n)) (len (month n + m) - 1), 0) else (0, 21)
theorem later_f (k : Nat) (n m : Int) : calendar_Later.f (k + 1) n m = some (later n m) := by
  unfold calendar_Later.f later
  rw [isDay_f, Option.bind_some]
  by_cases h : okD n = true
  · obtain ⟨h0, h1⟩ := (okD_iff n).1 h
    obtain ⟨p0, p1, p2, p3⟩ := month_spec h0 h1
    have fb := first_bound p0 p1
    rw [if_pos h]
    by_cases ha : m < -1199
    · rw [if_pos ha, if_neg (fun e => by omega)]
      simp only [calendar_Later.j0, if_true]
    · rw [if_neg ha]
      by_cases hb : m > 1199
      · rw [if_neg (fun e => by omega)]
        simp only [calendar_Later.j0, hb, decide_true, if_true]
      · simp only [calendar_Later.j0, hb, decide_false, Bool.false_eq_true, if_false, calendar_Month.f, Option.bind_some, isMonth_f]
        rw [wrap64_id (x := month n + m) (by omega) (by omega)]
        by_cases hm : okM (month n + m) = true
        · obtain ⟨m0, m1⟩ := (okM_iff _).1 hm
          have gb := first_bound m0 m1
          have lb := len_range m0 m1
          rw [if_pos hm, if_pos ⟨h, ⟨by omega, by omega⟩, hm⟩]
          simp only [calendar_First.f, calendar_Length.f, Option.bind_some]
          have ml : 0 ≤ mn (n - first (month n)) (len (month n + m) - 1) ∧ mn (n - first (month n)) (len (month n + m) - 1) ≤ 31 := by unfold mn; split <;> omega
          simp (disch := omega) only [wrap64_id]
        · rw [if_neg hm, if_neg (fun e => hm e.2.2)]
  · rw [if_neg h, if_neg (fun e => h e.1)]
    simp only [calendar_Later.j0, if_true]
def wd (n : Int) : Int := if okD n = true then (n + 5) % 7 + 1 else 0
theorem wd_f (n : Int) : calendar_Weekday.f n = some (wd n) := by
  unfold calendar_Weekday.f wd
  rw [isDay_f, Option.bind_some]
  by_cases h : okD n = true
  · obtain ⟨h0, h1⟩ := (okD_iff n).1 h
    rw [if_pos h, if_pos h, wrap64_id (x := n + 5) (by omega) (by omega), Int.tmod_eq_emod_of_nonneg (by omega), wrap64_id (by omega) (by omega)]
  · rw [if_neg h, if_neg h]
theorem head_eq (k : Nat) (hk : 8 ≤ k) : wageofficelaw02_head.f k = some true := by
  have h2 : wageofficelaw02_head.f 8 = some true := by decide +kernel
  obtain ⟨d, rfl⟩ : ∃ d, k = 8 + d := ⟨k - 8, by omega⟩
  induction d with
  | zero => exact h2
  | succ d ih => exact wageofficelaw02_head.mono _ _ (ih (by omega))
def pk (c n : Int) : Int := if c < 0 then (-(c + 1)) % n else c % n
theorem pick_f (c n : Int) (hc0 : -9223372036854775808 ≤ c) (hc : c ≤ 9223372036854775807) (hn : 0 < n) : wageofficelaw02_pick.f c n = some (pk c n) := by
  unfold wageofficelaw02_pick.f pk
  by_cases h : c < 0
  · rw [if_pos h, if_pos h, if_neg (by omega), wrap64_id (x := c + 1) (by omega) (by omega), wrap64_id (by omega) (by omega), Int.tmod_eq_emod_of_nonneg (by omega)]
  · rw [if_neg h, if_neg h, if_neg (by omega), Int.tmod_eq_emod_of_nonneg (by omega)]
theorem pk_range (c n : Int) (hn : 0 < n) : 0 ≤ pk c n ∧ pk c n < n := by
  unfold pk
  split
  · exact ⟨Int.emod_nonneg _ (by omega), Int.emod_lt_of_pos _ hn⟩
  · exact ⟨Int.emod_nonneg _ (by omega), Int.emod_lt_of_pos _ hn⟩
end Go.Proofs.YthakhcnpiobpgaaDoor.PureRef02
