/- Dates, days and texts, there and back. -/
import Derived.Test.YthakhcnpiobpgaaDoorPureParseT02
namespace Go.Proofs.YthakhcnpiobpgaaDoor.PureInv02
open Go.RowKit Go.Proofs.YthakhcnpiobpgaaDoor Go.Proofs.YthakhcnpiobpgaaDoor.PAll Go.Proofs.YthakhcnpiobpgaaDoorW.PrintWords Go.Proofs.YthakhcnpiobpgaaDoorW.PrintMore
open Go.Proofs.YthakhcnpiobpgaaDoor.Cal Go.Proofs.YthakhcnpiobpgaaDoor.CalA Go.Proofs.YthakhcnpiobpgaaDoor.Stub Go.Proofs.YthakhcnpiobpgaaDoor.PureRef02 Go.Proofs.YthakhcnpiobpgaaDoor.PureText02 Go.Proofs.YthakhcnpiobpgaaDoor.PureParseT02

theorem day_date {n : Int} (h0 : 0 ≤ n) (h1 : n ≤ 36524) : day (date n).1 (date n).2.1 (date n).2.2 = (n, 0) := by
  obtain ⟨p0, p1, p2, p3⟩ := month_spec h0 h1
  rw [date_ok h0 h1]
  dsimp only
  have eq : monthOf (2000 + month n / 12) (month n % 12 + 1) = month n := by unfold monthOf; omega
  unfold day
  rw [if_pos ((okY_iff _ _).2 ⟨by omega, by omega, by omega, by omega⟩), eq, if_pos ⟨by omega, by omega⟩, show first (month n) + (n - first (month n) + 1) - 1 = n by omega]
theorem date_day (y m d : Int) : (day y m d = (0, 21)) ∨ ((day y m d).2 = 0 ∧ 0 ≤ (day y m d).1 ∧ (day y m d).1 ≤ 36524 ∧ date (day y m d).1 = (y, m, d)) := by
  by_cases hY : okY y m = true
  · obtain ⟨y0, y1, m0, m1⟩ := (okY_iff y m).1 hY
    have q0 : 0 ≤ monthOf y m := by unfold monthOf; omega
    have q1 : monthOf y m ≤ 1199 := by unfold monthOf; omega
    have ey : y = 2000 + monthOf y m / 12 := by unfold monthOf; omega
    have em : m = monthOf y m % 12 + 1 := by unfold monthOf; omega
    have hv : day y m d = if 1 ≤ d ∧ d ≤ len (monthOf y m) then (first (monthOf y m) + d - 1, 0) else (0, 21) := by unfold day; rw [if_pos hY]
    by_cases hd : 1 ≤ d ∧ d ≤ len (monthOf y m)
    · rw [if_pos hd] at hv
      have fb := first_bound q0 q1
      have eb := end_bound q0 q1
      have hm : month (first (monthOf y m) + d - 1) = monthOf y m := month_uniq (by omega) (by omega) q0 q1 (by omega) (by omega)
      right
      rw [hv]
      dsimp only
      refine ⟨rfl, by omega, by omega, ?_⟩
      rw [date_ok (by omega) (by omega), hm, ← ey, ← em, show first (monthOf y m) + d - 1 - first (monthOf y m) + 1 = d by omega]
    · rw [if_neg hd] at hv
      exact .inl hv
  · left
    unfold day
    rw [if_neg hY]
theorem byte_nat {v : Int} (h0 : 0 ≤ v) (h1 : v ≤ 255) : (UInt8.ofNat v.toNat).toNat = v.toNat := by
  rw [UInt8.toNat_ofNat']
  exact Nat.mod_eq_of_lt (by omega)
theorem num_dig (n v : Int) (h0 : 0 ≤ v) (h1 : v ≤ 9) (r : List UInt8) : numL n (UInt8.ofNat (48 + v).toNat :: r) = numL (10 * n + v) r := by
  rw [numL, byte_nat (by omega) (by omega), if_pos ⟨by omega, by omega⟩]
  congr 1
  omega
theorem parse_text {n : Int} (h0 : 0 ≤ n) (h1 : n ≤ 36524) : parse (text n) = (n, 0) := by
  have hr := date_range h0 h1
  have hd := day_date h0 h1
  rw [text_ok h0 h1]
  generalize date n = t at *
  obtain ⟨y, m, d⟩ := t
  dsimp only at hr hd ⊢
  have e : strOfNums (tl (y, m, d)) = ⟨#[UInt8.ofNat (48 + y / 100 / 10).toNat, UInt8.ofNat (48 + y / 100 % 10).toNat, UInt8.ofNat (48 + y % 100 / 10).toNat, UInt8.ofNat (48 + y % 100 % 10).toNat, UInt8.ofNat 45,
      UInt8.ofNat (48 + m / 10).toNat, UInt8.ofNat (48 + m % 10).toNat, UInt8.ofNat 45, UInt8.ofNat (48 + d / 10).toNat, UInt8.ofNat (48 + d % 10).toNat]⟩ := rfl
  rw [e, parse_ten, num_dig _ _ (by omega) (by omega), num_dig _ _ (by omega) (by omega), num_dig _ _ (by omega) (by omega), num_dig _ _ (by omega) (by omega), num_dig _ _ (by omega) (by omega), num_dig _ _ (by omega) (by omega), num_dig _ _ (by omega) (by omega), num_dig _ _ (by omega) (by omega)]
  simp only [numL]
  rw [if_pos ⟨rfl, rfl, trivial, trivial, trivial⟩]
  rw [show 10 * (10 * (10 * (10 * 0 + y / 100 / 10) + y / 100 % 10) + y % 100 / 10) + y % 100 % 10 = y by omega, show 10 * (10 * 0 + m / 10) + m % 10 = m by omega, show 10 * (10 * 0 + d / 10) + d % 10 = d by omega]
  exact hd
theorem text_size {n : Int} (h0 : 0 ≤ n) (h1 : n ≤ 36524) : (text n).size = 10 := by rw [text_ok h0 h1, strOfNums_size]; rfl
def bs (l : List Int) : List UInt8 := l.map fun n => UInt8.ofNat n.toNat
theorem byte_lt {a b : Int} (a0 : 0 ≤ a) (a1 : a ≤ 255) (b0 : 0 ≤ b) (b1 : b ≤ 255) : decide (UInt8.ofNat a.toNat < UInt8.ofNat b.toNat) = decide (a < b) := by
  rw [decide_eq_decide, UInt8.lt_iff_toNat_lt, byte_nat a0 a1, byte_nat b0 b1]
  omega
theorem byte_beq {a b : Int} (a0 : 0 ≤ a) (a1 : a ≤ 255) (b0 : 0 ≤ b) (b1 : b ≤ 255) : (UInt8.ofNat a.toNat == UInt8.ofNat b.toNat) = decide (a = b) := by
  rw [Bool.eq_iff_iff, beq_iff_eq, decide_eq_true_eq, ← UInt8.toNat_inj, byte_nat a0 a1, byte_nat b0 b1]
  omega
theorem less_cons (a b : UInt8) (x y : List UInt8) : Op.bytesLess (a :: x) (b :: y) = (decide (a < b) || (a == b && Op.bytesLess x y)) := rfl
theorem less_g2 {v w : Int} (v0 : 0 ≤ v) (v1 : v ≤ 99) (w0 : 0 ≤ w) (w1 : w ≤ 99) (r s : List Int) : Op.bytesLess (bs (g2 v ++ r)) (bs (g2 w ++ s)) = (decide (v < w) || (decide (v = w) && Op.bytesLess (bs r) (bs s))) := by
  show Op.bytesLess (UInt8.ofNat (48 + v / 10).toNat :: UInt8.ofNat (48 + v % 10).toNat :: bs r) (UInt8.ofNat (48 + w / 10).toNat :: UInt8.ofNat (48 + w % 10).toNat :: bs s) = _
  rw [less_cons, less_cons, byte_lt (by omega) (by omega) (by omega) (by omega), byte_lt (by omega) (by omega) (by omega) (by omega), byte_beq (by omega) (by omega) (by omega) (by omega), byte_beq (by omega) (by omega) (by omega) (by omega)]
  generalize Op.bytesLess (bs r) (bs s) = q
  rw [Bool.eq_iff_iff]
  simp only [Bool.or_eq_true, Bool.and_eq_true, decide_eq_true_eq]
  cases q with
  | true => simp only [and_true]; omega
  | false => simp only [Bool.false_eq_true, and_false, or_false]; omega
theorem less_dash (r s : List Int) : Op.bytesLess (bs ([45] ++ r)) (bs ([45] ++ s)) = Op.bytesLess (bs r) (bs s) := by
  show Op.bytesLess (UInt8.ofNat 45 :: bs r) (UInt8.ofNat 45 :: bs s) = _
  rw [less_cons]
  simp
theorem text_list {n : Int} (h0 : 0 ≤ n) (h1 : n ≤ 36524) : (text n).toList = bs (tl (date n)) := by
  rw [Lib.toList_data, text_ok h0 h1, strOfNums_data]; rfl
theorem text_less {n k : Int} (h0 : 0 ≤ n) (h1 : n ≤ 36524) (k0 : 0 ≤ k) (k1 : k ≤ 36524) : Op.bytesLess (text n).toList (text k).toList = decide (n < k) := by
  rw [text_list h0 h1, text_list k0 k1]
  have hr := date_range h0 h1
  have hs := date_range k0 k1
  have key : n < k ↔ (date n).1 < (date k).1 ∨ ((date n).1 = (date k).1 ∧ ((date n).2.1 < (date k).2.1 ∨ ((date n).2.1 = (date k).2.1 ∧ (date n).2.2 < (date k).2.2))) := by
    obtain ⟨p0, p1, p2, p3⟩ := month_spec h0 h1
    obtain ⟨q0, q1, q2, q3⟩ := month_spec k0 k1
    rw [date_ok h0 h1, date_ok k0 k1]
    dsimp only
    rcases Int.lt_trichotomy (month n) (month k) with h | h | h
    · have := end_le p0 h q1
      constructor
      · intro _; omega
      · intro _; omega
    · rw [h] at *
      constructor
      · intro _; omega
      · intro _; omega
    · have := end_le q0 h p1
      constructor
      · intro _; omega
      · intro _; omega
  generalize date n = t at *
  generalize date k = u at *
  obtain ⟨y, m, d⟩ := t
  obtain ⟨y', m', d'⟩ := u
  dsimp only at hr hs key
  unfold tl
  dsimp only
  rw [less_g2 (by omega) (by omega) (by omega) (by omega), less_g2 (by omega) (by omega) (by omega) (by omega), less_dash, less_g2 (by omega) (by omega) (by omega) (by omega), less_dash]
  have e := less_g2 (v := d) (w := d') (by omega) (by omega) (by omega) (by omega) [] []
  rw [List.append_nil, List.append_nil] at e
  rw [e]
  rw [Bool.eq_iff_iff]
  simp only [Bool.or_eq_true, Bool.and_eq_true, decide_eq_true_eq]
  rw [key, show Op.bytesLess (bs []) (bs []) = false from rfl]
  simp only [Bool.false_eq_true, and_false, or_false]
  omega
theorem text_eq {n k : Int} (h0 : 0 ≤ n) (h1 : n ≤ 36524) (k0 : 0 ≤ k) (k1 : k ≤ 36524) : ((text n).toList == (text k).toList) = (n == k) := by
  rw [Bool.eq_iff_iff, beq_iff_eq, beq_iff_eq]
  constructor
  · intro e
    have a := text_less h0 h1 k0 k1
    have b := text_less k0 k1 h0 h1
    have c := text_less k0 k1 k0 k1
    rw [e] at a b
    rw [c, decide_eq_decide] at a b
    omega
  · intro e; rw [e]
end Go.Proofs.YthakhcnpiobpgaaDoor.PureInv02
