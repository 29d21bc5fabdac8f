/- Plain facts on the texts of digests: a text is parsed to its digest, what is parsed is the text of the result, and texts are ordered like digests. -/
import Derived.Test.YtjjfbcpfmdbblaaDoorDig
import Derived.Laws.Strings
namespace Go.Proofs.YtjjfbcpfmdbblaaDoor.Dig

def dg (d : Int) (j : Nat) : Nat := (d / 2 ^ (60 - 4 * j) % 16).toNat
theorem dg_lt (d : Int) (j : Nat) : dg d j < 16 := by unfold dg; omega
theorem hx_dg (d : Int) (j : Nat) : hx d j = hexL.getD (dg d j) 0 := rfl
/-- The byte of a digit. -/
def hb (m : Nat) : UInt8 := UInt8.ofNat (hexL.getD m 0).toNat
theorem fnd_hb : ∀ m, m < 16 → fnd ((hb m).toNat : Int) 16 = some m := by decide +kernel
theorem hb_lt : ∀ m, m < 16 → ∀ n, n < 16 → (hb m < hb n ↔ m < n) := by decide +kernel
theorem hb_inj : ∀ m, m < 16 → ∀ n, n < 16 → (hb m = hb n ↔ m = n) := by decide +kernel
theorem fnd_byte : ∀ n : Nat, n < 256 → ∀ m, fnd (n : Int) 16 = some m → UInt8.ofNat n = hb m := by
  intro n hn m h
  obtain ⟨_, h2⟩ := fnd_lt h
  unfold hb
  rw [h2]
  rfl
theorem text_list (d : Int) : (text d).data.toList = (List.range 16).map fun j => hb (dg d j) := by
  unfold text
  rw [strOfNums_data]
  unfold textL
  rw [List.map_map]
  rfl
theorem pow16 (j : Nat) (hj : j ≤ 15) : (2 : Int) ^ (60 - 4 * j) = 16 ^ (15 - j) := by
  have : 60 - 4 * j = 4 * (15 - j) := by omega
  rw [this, Int.pow_mul]
  rfl
theorem div_step (d : Int) (h0 : 0 ≤ d) (j : Nat) (hj : j ≤ 15) : d / 16 ^ (16 - j) * 16 + (dg d j : Int) = d / 16 ^ (15 - j) := by
  have e : 16 - j = (15 - j) + 1 := by omega
  unfold dg
  rw [pow16 j hj, e, Int.pow_succ, ← Int.ediv_ediv_of_nonneg (Int.le_of_lt (Int.pow_pos (by decide)))]
  have : 0 ≤ d / 16 ^ (15 - j) := Int.ediv_nonneg h0 (Int.le_of_lt (Int.pow_pos (by decide)))
  omega
theorem range_from (j r : Nat) : List.range' j (r + 1) = j :: List.range' (j + 1) r := rfl

theorem parseL_text (d : Int) (h0 : 0 ≤ d) : ∀ r j : Nat, j + r = 16 → parseL ((List.range' j r).map fun j => hb (dg d j)) (d / 16 ^ (16 - j)) = some d := by
  intro r
  induction r with
  | zero =>
    intro j hj
    obtain rfl : j = 16 := by omega
    simp [parseL]
  | succ r ih =>
    intro j hj
    rw [range_from, List.map_cons, parseL, fnd_hb _ (dg_lt d j)]
    simp only
    rw [div_step d h0 j (by omega)]
    have := ih (j + 1) (by omega)
    rw [show 16 - (j + 1) = 15 - j by omega] at this
    exact this
theorem parse_text (d : Int) (h0 : 0 ≤ d) (h1 : d ≤ 18446744073709551615) : parse (text d) = (d, 0) := by
  have h := parseL_text d h0 16 0 rfl
  have e : d / 16 ^ (16 - 0) = 0 := Int.ediv_eq_zero_of_lt h0 (by show d < 18446744073709551616; omega)
  rw [e, ← List.range_eq_range', ← text_list] at h
  unfold parse
  rw [if_pos (text_size d), h]

theorem less_from (a b : Int) (a0 : 0 ≤ a) (b0 : 0 ≤ b) : ∀ r j : Nat, j + r = 16 → a / 16 ^ (16 - j) = b / 16 ^ (16 - j) →
    Op.bytesLess ((List.range' j r).map fun j => hb (dg a j)) ((List.range' j r).map fun j => hb (dg b j)) = decide (a < b) := by
  intro r
  induction r with
  | zero =>
    intro j hj h
    obtain rfl : j = 16 := by omega
    simp only [Nat.sub_self, Int.pow_zero, Int.ediv_one] at h
    subst h
    simp [Op.bytesLess]
  | succ r ih =>
    intro j hj h
    rw [range_from, List.map_cons, List.map_cons, Op.bytesLess]
    have sa := div_step a a0 j (by omega)
    have sb := div_step b b0 j (by omega)
    have ih' := ih (j + 1) (by omega)
    rw [show 16 - (j + 1) = 15 - j by omega] at ih'
    have la := dg_lt a j
    have lb := dg_lt b j
    rcases Nat.lt_trichotomy (dg a j) (dg b j) with hlt | heq | hgt
    · have : a < b := by
        have h1 : a / 16 ^ (15 - j) < b / 16 ^ (15 - j) := by omega
        rcases Int.lt_or_le a b with h2 | h2
        · exact h2
        · have h3 : b / 16 ^ (15 - j) ≤ a / 16 ^ (15 - j) := Int.ediv_le_ediv (Int.pow_pos (by decide)) h2
          omega
      simp [(hb_lt _ la _ lb).2 hlt, this]
    · have e : a / 16 ^ (15 - j) = b / 16 ^ (15 - j) := by omega
      rw [ih' e, heq]
      have : ¬ hb (dg b j) < hb (dg b j) := fun h => by have := (hb_lt _ lb _ lb).1 h; omega
      simp [this]
    · have : ¬ a < b := by
        intro h2
        have h1 : b / 16 ^ (15 - j) < a / 16 ^ (15 - j) := by omega
        have h3 : a / 16 ^ (15 - j) ≤ b / 16 ^ (15 - j) := Int.ediv_le_ediv (Int.pow_pos (by decide)) (Int.le_of_lt h2)
        omega
      have h3 : ¬ hb (dg a j) < hb (dg b j) := fun h => by have := (hb_lt _ la _ lb).1 h; omega
      have h4 : ¬ hb (dg a j) = hb (dg b j) := fun h => by have := (hb_inj _ la _ lb).1 h; omega
      simp [h3, h4, this]
theorem text_less (a b : Int) (a0 : 0 ≤ a) (a1 : a ≤ 18446744073709551615) (b0 : 0 ≤ b) (b1 : b ≤ 18446744073709551615) :
    Op.bytesLess (text a).data.toList (text b).data.toList = decide (a < b) := by
  have ea : a / 16 ^ (16 - 0) = 0 := Int.ediv_eq_zero_of_lt a0 (by show a < 18446744073709551616; omega)
  have eb : b / 16 ^ (16 - 0) = 0 := Int.ediv_eq_zero_of_lt b0 (by show b < 18446744073709551616; omega)
  have := less_from a b a0 b0 16 0 rfl (ea.trans eb.symm)
  rw [← List.range_eq_range', ← text_list, ← text_list] at this
  exact this
theorem text_inj (a b : Int) (a0 : 0 ≤ a) (a1 : a ≤ 18446744073709551615) (b0 : 0 ≤ b) (b1 : b ≤ 18446744073709551615) : (text a).data.toList = (text b).data.toList ↔ a = b := by
  constructor
  · intro h
    have h1 := parse_text a a0 a1
    have h2 := parse_text b b0 b1
    have e : text a = text b := by
      have : (text a).data = (text b).data := Array.toList_inj.1 h
      cases ha : text a; cases hb' : text b; rw [ha, hb'] at this; simp only at this; rw [this]
    rw [e, h2] at h1
    exact (congrArg Prod.fst h1).symm
  · rintro rfl; rfl

theorem parseL_back : ∀ (l : List UInt8) (acc x : Int), 0 ≤ acc → parseL l acc = some x → x / 16 ^ l.length = acc ∧ 0 ≤ x ∧ ∀ i, i < l.length → l[i]? = some (hb (x / 16 ^ (l.length - 1 - i) % 16).toNat) := by
  intro l
  induction l with
  | nil => intro acc x h0 h; simp only [parseL, Option.some.injEq] at h; subst h; simp [h0]
  | cons b r ih =>
    intro acc x h0 h
    rw [parseL] at h
    cases e : fnd (b.toNat : Int) 16 with
    | none => rw [e] at h; cases h
    | some m =>
      rw [e] at h
      simp only at h
      obtain ⟨i1, i2, i3⟩ := ih (acc * 16 + m) x (by omega) h
      have hm := (fnd_lt e).1
      refine ⟨?_, i2, ?_⟩
      · rw [List.length_cons, Int.pow_succ, ← Int.ediv_ediv_of_nonneg (Int.le_of_lt (Int.pow_pos (by decide))), i1]
        omega
      · intro i hi
        cases i with
        | zero =>
          simp only [List.getElem?_cons_zero, List.length_cons, Nat.add_sub_cancel, Nat.sub_zero, i1]
          have : ((acc * 16 + m) % 16).toNat = m := by omega
          rw [this, ← fnd_byte b.toNat b.toNat_lt m e]
          simp
        | succ i =>
          have := i3 i (by simpa using hi)
          simp only [List.getElem?_cons_succ, List.length_cons, Nat.add_sub_cancel]
          rw [this]
          congr 6
          omega
theorem parse_back (s : ByteArray) (h : (parse s).2 = 0) : (text (parse s).1).data.toList = s.data.toList ∧ 0 ≤ (parse s).1 ∧ (parse s).1 ≤ 18446744073709551615 := by
  unfold parse at h ⊢
  split
  · rename_i h16
    rw [if_pos h16] at h
    cases e : parseL s.data.toList 0 with
    | none => rw [e] at h; cases h
    | some x =>
      simp only
      have hl : s.data.toList.length = 16 := by simpa using h16
      obtain ⟨i1, i2, i3⟩ := parseL_back _ 0 x (by decide) e
      rw [hl] at i1 i3
      have hx : x ≤ 18446744073709551615 := by
        have : x / 18446744073709551616 = 0 := i1
        omega
      refine ⟨?_, i2, hx⟩
      rw [text_list]
      apply List.ext_getElem?
      intro i
      by_cases hi : i < 16
      · rw [i3 i hi]
        simp only [List.getElem?_map, List.getElem?_range hi, Option.map_some, dg, pow16 i (by omega)]
      · rw [List.getElem?_eq_none (by simp; omega), List.getElem?_eq_none (by omega)]
  · rename_i h16
    rw [if_neg h16] at h
    cases h
theorem parse_err (s : ByteArray) (h : ¬ (parse s).2 = 0) : parse s = (0, 12) := by
  unfold parse at h ⊢
  split
  · rename_i h16
    rw [if_pos h16] at h
    split
    · rename_i e; rw [e] at h; exact absurd rfl h
    · rfl
  · rfl
end Go.Proofs.YtjjfbcpfmdbblaaDoor.Dig
