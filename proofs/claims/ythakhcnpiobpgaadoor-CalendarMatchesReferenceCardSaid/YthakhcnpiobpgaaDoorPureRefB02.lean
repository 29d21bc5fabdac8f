/- What the printed reference functions of layer 2 compute, said plainly. -/
import Derived.Test.YthakhcnpiobpgaaDoorPureRef02
import Derived.Test.YthakhcnpiobpgaaDoorPAllx4
namespace Go.Proofs.YthakhcnpiobpgaaDoor.PureRefB02
open Go.RowKit Go.Proofs.YthakhcnpiobpgaaDoor Go.Proofs.YthakhcnpiobpgaaDoor.PAll Go.Proofs.YthakhcnpiobpgaaDoorW.PrintWords Go.Proofs.YthakhcnpiobpgaaDoorW.PrintMore
open Go.Proofs.YthakhcnpiobpgaaDoor.Cal Go.Proofs.YthakhcnpiobpgaaDoor.CalA Go.Proofs.YthakhcnpiobpgaaDoor.Stub Go.Proofs.YthakhcnpiobpgaaDoor.PureRef02

def long (y : Int) : Bool := decide (y % 4 = 0 ∧ (y % 100 ≠ 0 ∨ y % 400 = 0))
def days (y m : Int) : Int := if m = 4 ∨ m = 6 ∨ m = 9 ∨ m = 11 then 30 else if m = 2 then (if long y = true then 29 else 28) else 31
theorem Long_f (y : Int) (h : 0 ≤ y) : wageofficeref02_Long.f y = some (long y) := by
  unfold wageofficeref02_Long.f long
  rw [Int.tmod_eq_emod_of_nonneg h, Int.tmod_eq_emod_of_nonneg h, Int.tmod_eq_emod_of_nonneg h]
  by_cases a : y % 4 = 0
  · rw [if_pos a]
    by_cases b : y % 100 = 0
    · rw [if_pos b]
      congr 1
      rw [Bool.eq_iff_iff, beq_iff_eq, decide_eq_true_eq]
      omega
    · rw [if_neg b]
      congr 1
      rw [eq_comm, decide_eq_true_eq]
      omega
  · rw [if_neg a]
    congr 1
    rw [eq_comm, decide_eq_false_iff_not]
    omega
theorem Days_f (k : Nat) (y m : Int) (h : 0 ≤ y) : wageofficeref02_Days.f (k + 1) y m = some (days y m) := by
  unfold wageofficeref02_Days.f days
  by_cases a : m = 4
  · rw [if_pos a, if_pos (.inl a), wageofficeref02_Days.j0, if_pos (by rw [beq_iff_eq]; exact a)]
  · rw [if_neg a]
    by_cases b : m = 6
    · rw [if_pos b, if_pos (.inr (.inl b)), wageofficeref02_Days.j0, if_pos (by rw [beq_iff_eq]; exact b)]
    · rw [if_neg b]
      by_cases c : m = 9
      · rw [if_pos c, if_pos (.inr (.inr (.inl c))), wageofficeref02_Days.j0, if_pos (by rw [beq_iff_eq]; exact c)]
      · rw [if_neg c, wageofficeref02_Days.j0]
        by_cases d : m = 11
        · rw [if_pos (by rw [beq_iff_eq]; exact d), if_pos (.inr (.inr (.inr d)))]
        · rw [if_neg (by rw [beq_iff_eq]; exact d)]
          have hno : ¬ (m = 4 ∨ m = 6 ∨ m = 9 ∨ m = 11) := by omega
          by_cases e : m = 2
          · rw [if_pos e, Long_f y h, Option.bind_some, if_neg hno, if_pos e]; split <;> rfl
          · rw [if_neg e, if_neg hno, if_neg e]
theorem days_table : ∀ m : Nat, m < 1200 → days (2000 + (m : Int) / 12) ((m : Int) % 12 + 1) = len0 m := by decide +kernel
theorem days_len {m : Int} (h0 : 0 ≤ m) (h1 : m ≤ 1199) : days (2000 + m / 12) (m % 12 + 1) = len m := by
  have := days_table m.toNat (by omega)
  rw [Int.toNat_of_nonneg h0] at this
  rw [len_ok h0 h1, this]
theorem Days_m (k : Nat) {m : Int} (h0 : 0 ≤ m) (h1 : m ≤ 1199) : wageofficeref02_Days.f (k + 1) (2000 + m / 12) (m % 12 + 1) = some (len m) := by
  rw [Days_f _ _ _ (by omega), days_len h0 h1]
theorem First_loop {m : Int} (h1 : m ≤ 1199) : ∀ (d k : Nat) (j : Int), j + d = m → 0 ≤ j → d + 1 < k → wageofficeref02_First.l0 k m (first j) j = some (first m) := by
  intro d
  induction d with
  | zero =>
    intro k j hj j0 hk
    obtain ⟨k, rfl⟩ := rounds (show 0 < k by omega)
    rw [wageofficeref02_First.l0, if_neg (by omega), show j = m by omega]
  | succ d ih =>
    intro k j hj j0 hk
    obtain ⟨k, rfl⟩ := rounds (show 0 < k by omega)
    obtain ⟨k, rfl⟩ := rounds (show 0 < k by omega)
    have fb := first_bound j0 (by omega : j ≤ 1199)
    have lr := len_range j0 (by omega : j ≤ 1199)
    rw [wageofficeref02_First.l0, if_pos (by omega), Int.tdiv_eq_ediv_of_nonneg j0, Int.tmod_eq_emod_of_nonneg j0, wrap64_id (x := j / 12) (by omega) (by omega), wrap64_id (x := 2000 + j / 12) (by omega) (by omega), wrap64_id (x := j % 12 + 1) (by omega) (by omega)]
    rw [Days_m k j0 (by omega), Option.bind_some, wrap64_id (x := first j + len j) (by omega) (by omega), wrap64_id (x := j + 1) (by omega) (by omega), ← first_step j0 (by omega)]
    exact ih (k + 1) (j + 1) (by omega) (by omega) (by omega)
theorem First_f (k : Nat) (hk : 1210 ≤ k) (m : Int) : wageofficeref02_First.f k m = some (first m) := by
  obtain ⟨k, rfl⟩ := rounds (show 0 < k by omega)
  unfold wageofficeref02_First.f
  by_cases a : m < 0
  · rw [if_pos a, wageofficeref02_First.j0, if_pos rfl, first_no (by omega)]
  · rw [if_neg a, wageofficeref02_First.j0]
    by_cases b : m > 1199
    · rw [if_pos (decide_eq_true b), first_no (by omega)]
    · rw [if_neg (by simpa using b)]
      have := First_loop (m := m) (by omega) m.toNat k 0 (by omega) (by omega) (by omega)
      rw [first_0] at this
      exact this
theorem Length_f (k : Nat) (m : Int) : wageofficeref02_Length.f (k + 1) m = some (len m) := by
  unfold wageofficeref02_Length.f
  by_cases a : m < 0
  · rw [if_pos a, len_no (by omega)]
  · rw [if_neg a]
    by_cases b : m > 1199
    · rw [if_pos b, len_no (by omega)]
    · have j0 : 0 ≤ m := by omega
      rw [if_neg b, Int.tdiv_eq_ediv_of_nonneg j0, Int.tmod_eq_emod_of_nonneg j0, wrap64_id (x := m / 12) (by omega) (by omega), wrap64_id (x := 2000 + m / 12) (by omega) (by omega), wrap64_id (x := m % 12 + 1) (by omega) (by omega)]
      rw [Days_m k j0 (by omega), Option.bind_some]
theorem Date_loop {n : Int} (h0 : 0 ≤ n) (h1 : n ≤ 36524) : ∀ (d k : Nat) (j : Int), j + d = month n → 0 ≤ j → d + 1 < k →
    wageofficeref02_Date.l0 k (n - first j) (2000 + j / 12) (j % 12 + 1) = some (2000 + month n / 12, month n % 12 + 1, n - first (month n) + 1) := by
  obtain ⟨p0, p1, p2, p3⟩ := month_spec h0 h1
  intro d
  induction d with
  | zero =>
    intro k j hj j0 hk
    obtain ⟨k, rfl⟩ := rounds (show 0 < k by omega)
    obtain ⟨k, rfl⟩ := rounds (show 0 < k by omega)
    obtain rfl : j = month n := by omega
    have fb := first_bound p0 p1
    rw [wageofficeref02_Date.l0, Days_m k p0 p1, Option.bind_some, if_neg (by omega), wrap64_id (by omega) (by omega)]
  | succ d ih =>
    intro k j hj j0 hk
    obtain ⟨k, rfl⟩ := rounds (show 0 < k by omega)
    obtain ⟨k, rfl⟩ := rounds (show 0 < k by omega)
    have fb := first_bound j0 (by omega : j ≤ 1199)
    have lr := len_range j0 (by omega : j ≤ 1199)
    have el := end_le j0 (show j < month n by omega) p1
    have fs := first_step j0 (by omega : j < 1199)
    have := ih (k + 1) (j + 1) (by omega) (by omega) (by omega)
    rw [fs] at this
    rw [wageofficeref02_Date.l0, Days_m k j0 (by omega), Option.bind_some, if_pos (by omega), Option.bind_some, wrap64_id (x := j % 12 + 1 + 1) (by omega) (by omega), wrap64_id (x := n - first j - len j) (by omega) (by omega), wrap64_id (x := 2000 + j / 12 + 1) (by omega) (by omega)]
    rw [show n - first j - len j = n - (first j + len j) by omega]
    by_cases c : j % 12 + 1 + 1 > 12
    · rw [show 2000 + (j + 1) / 12 = 2000 + j / 12 + 1 by omega, show (j + 1) % 12 + 1 = 1 by omega] at this
      rw [if_pos c]
      exact this
    · rw [show 2000 + (j + 1) / 12 = 2000 + j / 12 by omega, show (j + 1) % 12 + 1 = j % 12 + 1 + 1 by omega] at this
      rw [if_neg c]
      exact this
theorem Date_f (k : Nat) (hk : 1210 ≤ k) (n : Int) : wageofficeref02_Date.f k n = some (date n) := by
  obtain ⟨k, rfl⟩ := rounds (show 0 < k by omega)
  unfold wageofficeref02_Date.f date
  by_cases a : n < 0
  · rw [if_pos a, wageofficeref02_Date.j0, if_pos rfl, if_neg (fun e => by have := (okD_iff n).1 e; omega)]
  · rw [if_neg a, wageofficeref02_Date.j0]
    by_cases b : n > 36524
    · rw [if_pos (decide_eq_true b), if_neg (fun e => by have := (okD_iff n).1 e; omega)]
    · rw [if_neg (by simpa using b), if_pos ((okD_iff n).2 ⟨by omega, by omega⟩)]
      obtain ⟨p0, p1, p2, p3⟩ := month_spec (d := n) (by omega) (by omega)
      have := Date_loop (n := n) (by omega) (by omega) (month n).toNat k 0 (by omega) (by omega) (by omega)
      rw [first_0, Int.sub_zero] at this
      exact this
theorem Month_f (k : Nat) (hk : 1210 ≤ k) (n : Int) : wageofficeref02_Month.f k n = some (month n) := by
  unfold wageofficeref02_Month.f
  rw [Date_f k hk, Option.bind_some]
  by_cases h : okD n = true
  · obtain ⟨h0, h1⟩ := (okD_iff n).1 h
    obtain ⟨p0, p1, p2, p3⟩ := month_spec h0 h1
    rw [date_ok h0 h1]
    dsimp only
    rw [if_neg (by omega)]
    simp (disch := omega) only [wrap64_id]
    congr 1
    omega
  · unfold date
    rw [if_neg h, if_pos rfl, month_no (fun e => h ((okD_iff n).2 e))]
theorem Day_f (k : Nat) (hk : 1210 ≤ k) (y m d : Int) (hd : d ≤ 9223372036854775807) : wageofficeref02_Day.f k y m d = some (day y m d) := by
  unfold wageofficeref02_Day.f
  have hno : ∀ h : ¬ (2000 ≤ y ∧ y ≤ 2099 ∧ 1 ≤ m ∧ m ≤ 12), day y m d = (0, 21) := fun h => by unfold day; rw [if_neg (fun e => h ((okY_iff y m).1 e))]
  by_cases a : y < 2000
  · rw [if_pos a, hno (by omega)]
  · rw [if_neg a]
    by_cases b : y > 2099
    · rw [if_pos b, hno (by omega)]
    · rw [if_neg b]
      by_cases c : m < 1
      · rw [if_pos c, hno (by omega)]
      · rw [if_neg c]
        by_cases e : m > 12
        · rw [if_pos e, hno (by omega)]
        · rw [if_neg e]
          have hv : day y m d = if 1 ≤ d ∧ d ≤ len (monthOf y m) then (first (monthOf y m) + d - 1, 0) else (0, 21) := by unfold day; rw [if_pos ((okY_iff y m).2 ⟨by omega, by omega, by omega, by omega⟩)]
          have q0 : 0 ≤ monthOf y m := by unfold monthOf; omega
          have q1 : monthOf y m ≤ 1199 := by unfold monthOf; omega
          have ey : y = 2000 + monthOf y m / 12 := by unfold monthOf; omega
          have em : m = monthOf y m % 12 + 1 := by unfold monthOf; omega
          have eq : (y - 2000) * 12 + m - 1 = monthOf y m := rfl
          rw [wrap64_id (x := y - 2000) (by omega) (by omega), wrap64_id (x := (y - 2000) * 12) (by omega) (by omega), wrap64_id (x := (y - 2000) * 12 + m) (by omega) (by omega), wrap64_id (x := (y - 2000) * 12 + m - 1) (by omega) (by omega), eq, First_f k hk]
          have hD : wageofficeref02_Days.f k y m = some (len (monthOf y m)) := by
            obtain ⟨k, rfl⟩ := rounds (show 0 < k by omega)
            have := Days_m k q0 q1
            rw [← ey, ← em] at this
            exact this
          rw [hv]
          have fb := first_bound q0 q1
          have lr := len_range q0 q1
          by_cases g : d < 1
          · rw [if_pos g, if_neg (by omega)]
          · rw [if_neg g, hD, Option.bind_some]
            by_cases i : d > len (monthOf y m)
            · rw [if_pos i, if_neg (by omega)]
            · rw [if_neg i, if_pos (by omega), Option.bind_some, wrap64_id (x := first (monthOf y m) + d) (by omega) (by omega), wrap64_id (by omega) (by omega)]
theorem Weekday_f (k : Nat) (n : Int) : wageofficeref02_Weekday.f (k + 1) n = some (wd n) := by
  unfold wageofficeref02_Weekday.f wd
  by_cases a : n < 0
  · rw [if_pos a, wageofficeref02_Weekday.j0, if_pos rfl, if_neg (fun e => by have := (okD_iff n).1 e; omega)]
  · rw [if_neg a, wageofficeref02_Weekday.j0]
    by_cases b : n > 36524
    · rw [if_pos (decide_eq_true b), if_neg (fun e => by have := (okD_iff n).1 e; omega)]
    · rw [if_neg (by simpa using b), if_pos ((okD_iff n).2 ⟨by omega, by omega⟩), Int.tmod_eq_emod_of_nonneg (by omega), wrap64_id (x := 6 + n % 7) (by omega) (by omega), wrap64_id (by omega) (by omega)]
      split
      · congr 1; omega
      · congr 1; omega
theorem Later_f (k : Nat) (hk : 1215 ≤ k) (n m : Int) : wageofficeref02_Later.f k n m = some (later n m) := by
  obtain ⟨k, rfl⟩ := rounds (show 0 < k by omega)
  obtain ⟨k, rfl⟩ := rounds (show 0 < k by omega)
  unfold wageofficeref02_Later.f later
  rw [Date_f _ (by omega), Option.bind_some]
  by_cases h : okD n = true
  · obtain ⟨h0, h1⟩ := (okD_iff n).1 h
    obtain ⟨p0, p1, p2, p3⟩ := month_spec h0 h1
    have fb := first_bound p0 p1
    have lq := len_range p0 p1
    rw [date_ok h0 h1]
    dsimp only
    rw [if_neg (by omega)]
    by_cases ha : m < -1199
    · rw [if_pos ha, if_neg (fun e => by omega), wageofficeref02_Later.j0, if_pos rfl]
    · rw [if_neg ha, wageofficeref02_Later.j0]
      by_cases hb : m > 1199
      · rw [if_pos (decide_eq_true hb), if_neg (fun e => by omega)]
      · rw [if_neg (by simpa using hb), wrap64_id (x := 2000 + month n / 12 - 2000) (by omega) (by omega), wrap64_id (x := (2000 + month n / 12 - 2000) * 12) (by omega) (by omega), wrap64_id (x := (2000 + month n / 12 - 2000) * 12 + (month n % 12 + 1)) (by omega) (by omega), wrap64_id (x := (2000 + month n / 12 - 2000) * 12 + (month n % 12 + 1) - 1) (by omega) (by omega), wrap64_id (x := (2000 + month n / 12 - 2000) * 12 + (month n % 12 + 1) - 1 + m) (by omega) (by omega)]
        rw [show (2000 + month n / 12 - 2000) * 12 + (month n % 12 + 1) - 1 + m = month n + m by omega]
        by_cases c : month n + m < 0
        · rw [if_pos c, if_neg (fun e => by have := (okM_iff _).1 e.2.2; omega), wageofficeref02_Later.j1, if_pos rfl]
        · rw [if_neg c, wageofficeref02_Later.j1]
          by_cases c2 : month n + m > 1199
          · rw [if_pos (decide_eq_true c2), if_neg (fun e => by have := (okM_iff _).1 e.2.2; omega)]
          · obtain ⟨m0, m1⟩ : 0 ≤ month n + m ∧ month n + m ≤ 1199 := by omega
            have gb := first_bound m0 m1
            have lb := len_range m0 m1
            rw [if_neg (by simpa using c2), if_pos ⟨h, ⟨by omega, by omega⟩, (okM_iff _).2 ⟨m0, m1⟩⟩, First_f k (by omega), Option.bind_some]
            obtain ⟨k, rfl⟩ := rounds (show 0 < k by omega)
            rw [Length_f, Option.bind_some]
            have ml : mn (n - first (month n) + 1) (len (month n + m)) = mn (n - first (month n)) (len (month n + m) - 1) + 1 ∧ 0 ≤ mn (n - first (month n)) (len (month n + m) - 1) ∧ mn (n - first (month n)) (len (month n + m) - 1) ≤ 31 := by unfold mn; split <;> split <;> omega
            rw [ml.1]
            generalize mn (n - first (month n)) (len (month n + m) - 1) = u at *
            rw [wrap64_id (x := first (month n + m) + (u + 1)) (by omega) (by omega), wrap64_id (by omega) (by omega)]
            congr 2
            omega
  · unfold date
    rw [if_neg h, if_pos rfl, if_neg (fun e => h e.1), wageofficeref02_Later.j0, if_pos rfl]
end Go.Proofs.YthakhcnpiobpgaaDoor.PureRefB02
