/- The calendar, said plainly: months are counted from January 2000, days from its first. -/
import Derived.KernelRfl
import Derived.Laws.BytesArg
namespace Go.Proofs.YthakhcnpiobpgaaDoor.Cal

def beforeL : List Int := [0, 31, 59, 90, 120, 151, 181, 212, 243, 273, 304, 334, 365]
def bef (k : Nat) : Int := beforeL.getD k 0
/-- The first day of a year, counted from 2000. -/
def yst (y : Int) : Int := y / 4 * 1461 + y % 4 * 365 + (if y % 4 = 0 then 0 else 1)
def okM (m : Int) : Bool := decide (0 ≤ m ∧ m ≤ 1199)
def okD (d : Int) : Bool := decide (0 ≤ d ∧ d ≤ 36524)
def first0 (m : Int) : Int := yst (m / 12) + bef (m % 12).toNat + (if m / 12 % 4 = 0 ∧ 2 ≤ m % 12 then 1 else 0)
def len0 (m : Int) : Int := bef ((m % 12).toNat + 1) - bef (m % 12).toNat + (if m % 12 = 1 ∧ m / 12 % 4 = 0 then 1 else 0)
def first (m : Int) : Int := if okM m = true then first0 m else -1
def len (m : Int) : Int := if okM m = true then len0 m else 0
/-- The month of a day, from a month on that is not later. -/
def srch : Nat → Int → Int → Int
  | 0, m, _ => m
  | n + 1, m, d => if d < first m + len m then m else srch n (m + 1) d
def month (d : Int) : Int := if okD d = true then srch 1200 (d / 31) d else -1

theorem okM_iff (m : Int) : okM m = true ↔ 0 ≤ m ∧ m ≤ 1199 := by simp [okM]
theorem okD_iff (d : Int) : okD d = true ↔ 0 ≤ d ∧ d ≤ 36524 := by simp [okD]
theorem steps : ∀ m : Nat, m < 1199 → first0 ((m : Int) + 1) = first0 m + len0 m := by decide +kernel
theorem lens : ∀ m : Nat, m < 1200 → 28 ≤ len0 m ∧ len0 m ≤ 31 := by decide +kernel
theorem first_zero : first0 0 = 0 := by decide +kernel
theorem first_last : first0 1199 + len0 1199 = 36525 := by decide +kernel
theorem first_ok {m : Int} (h0 : 0 ≤ m) (h1 : m ≤ 1199) : first m = first0 m := by unfold first; rw [if_pos ((okM_iff m).2 ⟨h0, h1⟩)]
theorem len_ok {m : Int} (h0 : 0 ≤ m) (h1 : m ≤ 1199) : len m = len0 m := by unfold len; rw [if_pos ((okM_iff m).2 ⟨h0, h1⟩)]
theorem first_no {m : Int} (h : ¬ (0 ≤ m ∧ m ≤ 1199)) : first m = -1 := by unfold first; rw [if_neg (fun e => h ((okM_iff m).1 e))]
theorem len_no {m : Int} (h : ¬ (0 ≤ m ∧ m ≤ 1199)) : len m = 0 := by unfold len; rw [if_neg (fun e => h ((okM_iff m).1 e))]
theorem len_range {m : Int} (h0 : 0 ≤ m) (h1 : m ≤ 1199) : 28 ≤ len m ∧ len m ≤ 31 := by
  obtain ⟨n, rfl⟩ := Int.eq_ofNat_of_zero_le h0
  rw [len_ok h0 h1]
  exact lens n (by omega)
theorem first_step {m : Int} (h0 : 0 ≤ m) (h1 : m < 1199) : first (m + 1) = first m + len m := by
  obtain ⟨n, rfl⟩ := Int.eq_ofNat_of_zero_le h0
  rw [first_ok (by omega) (by omega), first_ok h0 (by omega), len_ok h0 (by omega)]
  exact steps n (by omega)
theorem first_end : first 1199 + len 1199 = 36525 := by rw [first_ok (by decide) (by decide), len_ok (by decide) (by decide)]; exact first_last
/-- Months that are n apart: at least 28 n days, at most 31 n. -/
theorem first_apart (n : Nat) : ∀ m : Int, 0 ≤ m → m + n ≤ 1199 → first m + 28 * n ≤ first (m + n) ∧ first (m + n) ≤ first m + 31 * n := by
  induction n with
  | zero => intro m h0 h1; simp
  | succ n ih =>
    intro m h0 h1
    have h2 := ih m h0 (by omega)
    have h3 := first_step (m := m + n) (by omega) (by omega)
    have h4 := len_range (m := m + n) (by omega) (by omega)
    have e : m + ((n + 1 : Nat) : Int) = m + n + 1 := by omega
    rw [e, h3]
    omega
theorem first_0 : first 0 = 0 := by rw [first_ok (by decide) (by decide)]; exact first_zero
theorem first_bound {m : Int} (h0 : 0 ≤ m) (h1 : m ≤ 1199) : 28 * m ≤ first m ∧ first m ≤ 31 * m := by
  obtain ⟨n, rfl⟩ := Int.eq_ofNat_of_zero_le h0
  have := first_apart n 0 (by decide) (by omega)
  rw [first_0] at this
  simp only [Int.zero_add] at this
  omega
theorem first_mono {a b : Int} (h0 : 0 ≤ a) (h1 : a ≤ b) (h2 : b ≤ 1199) : first a ≤ first b := by
  obtain ⟨n, hn⟩ := Int.eq_ofNat_of_zero_le (show 0 ≤ b - a by omega)
  have := first_apart n a h0 (by omega)
  have e : a + (n : Int) = b := by omega
  rw [e] at this
  omega
theorem end_le {a b : Int} (h0 : 0 ≤ a) (h1 : a < b) (h2 : b ≤ 1199) : first a + len a ≤ first b := by
  have := first_step h0 (by omega)
  have := first_mono (a := a + 1) (by omega) (by omega) h2
  omega
theorem end_bound {m : Int} (h0 : 0 ≤ m) (h1 : m ≤ 1199) : first m + len m ≤ 36525 := by
  by_cases e : m = 1199
  · subst e; rw [first_end]; decide
  · have := end_le h0 (show m < 1199 by omega) (by decide)
    have h := first_end
    have := len_range (m := 1199) (by decide) (by decide)
    omega
/-- The search finds the month that holds the day. -/
theorem srch_spec (d : Int) (hd : d ≤ 36524) : ∀ n : Nat, ∀ m : Int, 0 ≤ m → m ≤ 1199 → first m ≤ d → 1199 - m < n →
    0 ≤ srch n m d ∧ srch n m d ≤ 1199 ∧ first (srch n m d) ≤ d ∧ d < first (srch n m d) + len (srch n m d) := by
  intro n
  induction n with
  | zero => intro m h0 h1 _ h; omega
  | succ n ih =>
    intro m h0 h1 h2 h3
    rw [srch]
    by_cases c : d < first m + len m
    · rw [if_pos c]; exact ⟨h0, h1, h2, c⟩
    · rw [if_neg c]
      have hm : m < 1199 := by
        by_cases e : m = 1199
        · subst e; rw [first_end] at c; omega
        · omega
      exact ih (m + 1) (by omega) (by omega) (by rw [first_step h0 hm]; omega) (by omega)
theorem month_spec {d : Int} (h0 : 0 ≤ d) (h1 : d ≤ 36524) : 0 ≤ month d ∧ month d ≤ 1199 ∧ first (month d) ≤ d ∧ d < first (month d) + len (month d) := by
  have e : month d = srch 1200 (d / 31) d := by unfold month; rw [if_pos ((okD_iff d).2 ⟨h0, h1⟩)]
  rw [e]
  have hb := first_bound (m := d / 31) (by omega) (by omega)
  exact srch_spec d h1 1200 (d / 31) (by omega) (by omega) (by omega) (by omega)
theorem month_uniq {d m : Int} (h0 : 0 ≤ d) (h1 : d ≤ 36524) (m0 : 0 ≤ m) (m1 : m ≤ 1199) (a : first m ≤ d) (b : d < first m + len m) : month d = m := by
  obtain ⟨p0, p1, p2, p3⟩ := month_spec h0 h1
  rcases Int.lt_trichotomy (month d) m with h | h | h
  · have := end_le p0 h m1; omega
  · exact h
  · have := end_le m0 h p1; omega
theorem month_no {d : Int} (h : ¬ (0 ≤ d ∧ d ≤ 36524)) : month d = -1 := by unfold month; rw [if_neg (fun e => h ((okD_iff d).1 e))]
/-- The number of a date, and the error. -/
def okY (y m : Int) : Bool := decide (2000 ≤ y ∧ y ≤ 2099 ∧ 1 ≤ m ∧ m ≤ 12)
def monthOf (y m : Int) : Int := (y - 2000) * 12 + m - 1
def day (y m d : Int) : Int × Int := if okY y m = true then (if 1 ≤ d ∧ d ≤ len (monthOf y m) then (first (monthOf y m) + d - 1, 0) else (0, 21)) else (0, 21)
theorem okY_iff (y m : Int) : okY y m = true ↔ 2000 ≤ y ∧ y ≤ 2099 ∧ 1 ≤ m ∧ m ≤ 12 := by simp [okY]
/-- The three numbers of a text, byte by byte. -/
def parts : List UInt8 → Nat → Nat → List Int → Option (List Int)
  | [], _, _, ps => some ps
  | c :: r, i, k, ps =>
    if i = 4 ∨ i = 7 then (if c.toNat = 45 then parts r (i + 1) (k + 1) ps else none)
    else if 48 ≤ c.toNat ∧ c.toNat ≤ 57 then parts r (i + 1) k (ps.set k (10 * ps.getD k 0 + ((c.toNat : Int) - 48))) else none
def parse (s : ByteArray) : Int × Int :=
  if s.size = 10 then (match parts s.data.toList 0 0 [0, 0, 0] with | some ps => day (ps.getD 0 0) (ps.getD 1 0) (ps.getD 2 0) | none => (0, 12)) else (0, 12)
end Go.Proofs.YthakhcnpiobpgaaDoor.Cal
