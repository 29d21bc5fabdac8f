/- What the printed Text computes, said plainly. -/
import Derived.Test.YthakhcnpiobpgaaDoorPureRef02
namespace Go.Proofs.YthakhcnpiobpgaaDoor.PureText02
open Go.RowKit Go.Proofs.YthakhcnpiobpgaaDoor Go.Proofs.YthakhcnpiobpgaaDoor.PAll Go.Proofs.YthakhcnpiobpgaaDoorW.PrintWords Go.Proofs.YthakhcnpiobpgaaDoorW.PrintMore
open Go.Proofs.YthakhcnpiobpgaaDoor.Cal Go.Proofs.YthakhcnpiobpgaaDoor.CalA Go.Proofs.YthakhcnpiobpgaaDoor.Stub Go.Proofs.YthakhcnpiobpgaaDoor.PureRef02

theorem str_app (xs ys : List Int) : strOfNums xs ++ strOfNums ys = strOfNums (xs ++ ys) := by
  apply ByteArray.ext
  apply Array.toList_inj.1
  rw [ByteArray.data_append, Array.toList_append, strOfNums_data, strOfNums_data, strOfNums_data, List.map_append]
theorem dash : (⟨#[45]⟩ : ByteArray) = strOfNums [45] := rfl
theorem dig_round (k : Nat) (x c n i : Int) (xs : List Int) (j : Nat) (hi : i < n) (c0 : 1 ≤ c ∧ c ≤ 9) (hj : c - 1 - i = (j : Int)) (hl : j < xs.length) (x0 : 0 ≤ x) (x1 : x ≤ 9999) (i0 : 0 ≤ i) (i1 : i ≤ 9) :
    calendar_digits.l0 (k + 1) x c xs n i = calendar_digits.l0 k (x / 10) c (xs.set j (48 + x % 10)) n (i + 1) := by
  rw [calendar_digits.l0, if_pos hi, wrap64_id (x := c - 1) (by omega) (by omega), wrap64_id (x := c - 1 - i) (by omega) (by omega), hj, if_pos (by omega), if_pos (by omega), Int.tdiv_eq_ediv_of_nonneg x0, Int.tmod_eq_emod_of_nonneg x0, wrap64_id (x := x / 10) (by omega) (by omega), wrap64_id (x := 48 + x % 10) (by omega) (by omega), wrap64_id (x := i + 1) (by omega) (by omega)]
  rw [Int.toNat_natCast, Int.emod_eq_of_lt (a := 48 + x % 10) (by omega) (by omega)]
theorem digits2 (k : Nat) (v : Int) (h0 : 0 ≤ v) (h1 : v ≤ 99) : calendar_digits.f (k + 3) v 2 = some (strOfNums [48 + v / 10 % 10, 48 + v % 10]) := by
  unfold calendar_digits.f
  rw [if_pos (by decide), if_pos (by decide)]
  rw [dig_round _ _ _ _ _ _ 1 (by decide) (by decide) (by decide) (by simp) h0 (by omega) (by decide) (by decide)]
  rw [dig_round _ _ _ _ _ _ 0 (by decide) (by decide) (by decide) (by simp) (by omega) (by omega) (by decide) (by decide)]
  rw [calendar_digits.l0, if_neg (by decide)]
  rfl
theorem digits4 (k : Nat) (v : Int) (h0 : 0 ≤ v) (h1 : v ≤ 9999) : calendar_digits.f (k + 5) v 4 = some (strOfNums [48 + v / 10 / 10 / 10 % 10, 48 + v / 10 / 10 % 10, 48 + v / 10 % 10, 48 + v % 10]) := by
  unfold calendar_digits.f
  rw [if_pos (by decide), if_pos (by decide)]
  rw [dig_round _ _ _ _ _ _ 3 (by decide) (by decide) (by decide) (by simp) h0 (by omega) (by decide) (by decide)]
  rw [dig_round _ _ _ _ _ _ 2 (by decide) (by decide) (by decide) (by simp) (by omega) (by omega) (by decide) (by decide)]
  rw [dig_round _ _ _ _ _ _ 1 (by decide) (by decide) (by decide) (by simp) (by omega) (by omega) (by decide) (by decide)]
  rw [dig_round _ _ _ _ _ _ 0 (by decide) (by decide) (by decide) (by simp) (by omega) (by omega) (by decide) (by decide)]
  rw [calendar_digits.l0, if_neg (by decide)]
  rfl
/-- Two digits. -/
def g2 (v : Int) : List Int := [48 + v / 10, 48 + v % 10]
def tl (t : Int × Int × Int) : List Int := g2 (t.1 / 100) ++ (g2 (t.1 % 100) ++ ([45] ++ (g2 t.2.1 ++ ([45] ++ g2 t.2.2))))
def text (n : Int) : ByteArray := if okD n = true then strOfNums (tl (date n)) else ⟨#[]⟩
theorem text_ok {n : Int} (h0 : 0 ≤ n) (h1 : n ≤ 36524) : text n = strOfNums (tl (date n)) := by unfold text; rw [if_pos ((okD_iff n).2 ⟨h0, h1⟩)]
theorem date_range {n : Int} (h0 : 0 ≤ n) (h1 : n ≤ 36524) : 2000 ≤ (date n).1 ∧ (date n).1 ≤ 2099 ∧ 1 ≤ (date n).2.1 ∧ (date n).2.1 ≤ 12 ∧ 1 ≤ (date n).2.2 ∧ (date n).2.2 ≤ 31 := by
  obtain ⟨p0, p1, p2, p3⟩ := month_spec h0 h1
  have lr := len_range p0 p1
  rw [date_ok h0 h1]
  dsimp only
  omega
theorem Text_f (k : Nat) (n : Int) : calendar_Text.f (k + 5) n = some (text n) := by
  unfold calendar_Text.f
  rw [isDay_f, Option.bind_some]
  by_cases h : okD n = true
  · obtain ⟨h0, h1⟩ := (okD_iff n).1 h
    have hr := date_range h0 h1
    rw [if_pos h, text_ok h0 h1, date_f, Option.bind_some]
    generalize date n = t at *
    obtain ⟨y, m, d⟩ := t
    dsimp only at hr ⊢
    rw [digits4 k y (by omega) (by omega), Option.bind_some, digits2 (k + 2) m (by omega) (by omega), Option.bind_some, digits2 (k + 2) d (by omega) (by omega), Option.bind_some]
    simp only [strOfNums_size, List.length_cons, List.length_nil]
    rw [if_pos (by decide), if_pos (by decide), if_pos (by decide), if_pos (by decide), dash, str_app, str_app, str_app, str_app]
    unfold tl g2
    have a1 : 48 + y / 10 / 10 / 10 % 10 = 48 + y / 100 / 10 := by omega
    have a2 : 48 + y / 10 / 10 % 10 = 48 + y / 100 % 10 := by omega
    have a3 : 48 + y / 10 % 10 = 48 + y % 100 / 10 := by omega
    have a4 : 48 + y % 10 = 48 + y % 100 % 10 := by omega
    have a5 : 48 + m / 10 % 10 = 48 + m / 10 := by omega
    have a6 : 48 + d / 10 % 10 = 48 + d / 10 := by omega
    rw [a1, a2, a3, a4, a5, a6]
    rfl
  · unfold text
    rw [if_neg h, if_neg h]
end Go.Proofs.YthakhcnpiobpgaaDoor.PureText02
