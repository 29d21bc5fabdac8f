/- Calendar's Parse of ten bytes, said by its three numbers. -/
import Derived.Test.YthakhcnpiobpgaaDoorPureText02
namespace Go.Proofs.YthakhcnpiobpgaaDoor.PureParseT02
open Go.RowKit Go.Proofs.YthakhcnpiobpgaaDoor Go.Proofs.YthakhcnpiobpgaaDoor.PAll Go.Proofs.YthakhcnpiobpgaaDoorW.PrintWords Go.Proofs.YthakhcnpiobpgaaDoorW.PrintMore
open Go.Proofs.YthakhcnpiobpgaaDoor.Cal Go.Proofs.YthakhcnpiobpgaaDoor.CalA Go.Proofs.YthakhcnpiobpgaaDoor.Stub Go.Proofs.YthakhcnpiobpgaaDoor.PureRef02 Go.Proofs.YthakhcnpiobpgaaDoor.PureText02

def numL : Int → List UInt8 → Int × Bool
  | n, [] => (n, true)
  | n, c :: r => if 48 ≤ c.toNat ∧ c.toNat ≤ 57 then numL (10 * n + ((c.toNat : Int) - 48)) r else (0, false)
theorem numL_range : ∀ (r : List UInt8) (n : Int), 0 ≤ n → 0 ≤ (numL n r).1 ∧ (numL n r).1 ≤ n * 10 ^ r.length + 10 ^ r.length - 1 := by
  intro r
  induction r with
  | nil => intro n h; simp [numL]; omega
  | cons c r ih =>
    intro n h
    rw [numL]
    have hp : (1 : Int) ≤ 10 ^ r.length := by have : (0 : Int) < 10 ^ r.length := Int.pow_pos (by decide); omega
    simp only [List.length_cons, Int.pow_succ]
    split
    · rename_i hc
      obtain ⟨i0, i1⟩ := ih (10 * n + ((c.toNat : Int) - 48)) (by omega)
      refine ⟨i0, ?_⟩
      have e : (10 * n + ((c.toNat : Int) - 48)) * 10 ^ r.length = n * (10 ^ r.length * 10) + ((c.toNat : Int) - 48) * 10 ^ r.length := by
        rw [Int.add_mul, Int.mul_comm (10 ^ r.length) 10, ← Int.mul_assoc n, Int.mul_comm n 10]
      have h9 : ((c.toNat : Int) - 48) * 10 ^ r.length ≤ 9 * 10 ^ r.length := Int.mul_le_mul_of_nonneg_right (by omega) (by omega)
      rw [e] at i1
      omega
    · have := Int.mul_nonneg h (show (0 : Int) ≤ 10 ^ r.length * 10 by omega)
      exact ⟨Int.le_refl 0, by show (0 : Int) ≤ _; omega⟩
theorem parts_dig (c : UInt8) (r : List UInt8) (i k : Nat) (ps : List Int) (h : ¬ (i = 4 ∨ i = 7)) : parts (c :: r) i k ps = if 48 ≤ c.toNat ∧ c.toNat ≤ 57 then parts r (i + 1) k (ps.set k (10 * ps.getD k 0 + ((c.toNat : Int) - 48))) else none := by rw [parts, if_neg h]
theorem parts_dash (c : UInt8) (r : List UInt8) (i k : Nat) (ps : List Int) (h : i = 4 ∨ i = 7) : parts (c :: r) i k ps = if c.toNat = 45 then parts r (i + 1) (k + 1) ps else none := by rw [parts, if_pos h]
/-- A group of digits. -/
theorem parts_group (k : Nat) (ps : List Int) (hk : k < ps.length) (t : List UInt8) : ∀ (r : List UInt8) (i : Nat) (n : Int), (∀ j, i ≤ j → j < i + r.length → ¬ (j = 4 ∨ j = 7)) →
    parts (r ++ t) i k (ps.set k n) = if (numL n r).2 = true then parts t (i + r.length) k (ps.set k (numL n r).1) else none := by
  intro r
  induction r with
  | nil => intro i n h; simp [numL]
  | cons c r ih =>
    intro i n h
    simp only [List.length_cons] at h
    rw [List.cons_append, parts_dig _ _ _ _ _ (h i (by omega) (by omega)), numL]
    split
    · have e : (ps.set k n).getD k 0 = n := by simp [List.getD_eq_getElem?_getD, hk]
      rw [e, List.set_set, ih (i + 1) _ (fun j h1 h2 => h j (by omega) (by omega))]
      simp only [List.length_cons]
      rw [show i + 1 + r.length = i + (r.length + 1) by omega]
    · rfl
theorem parse_ten (c0 c1 c2 c3 c4 c5 c6 c7 c8 c9 : UInt8) : parse ⟨#[c0, c1, c2, c3, c4, c5, c6, c7, c8, c9]⟩ =
    if c4.toNat = 45 ∧ c7.toNat = 45 ∧ (numL 0 [c0, c1, c2, c3]).2 = true ∧ (numL 0 [c5, c6]).2 = true ∧ (numL 0 [c8, c9]).2 = true then day (numL 0 [c0, c1, c2, c3]).1 (numL 0 [c5, c6]).1 (numL 0 [c8, c9]).1 else (0, 12) := by
  unfold parse
  rw [if_pos (show (⟨#[c0, c1, c2, c3, c4, c5, c6, c7, c8, c9]⟩ : ByteArray).size = 10 from rfl)]
  have g1 := parts_group 0 [0, 0, 0] (by decide) [c4, c5, c6, c7, c8, c9] [c0, c1, c2, c3] 0 0 (fun j h1 h2 => by simp at h2; omega)
  have e1 : parts [c0, c1, c2, c3, c4, c5, c6, c7, c8, c9] 0 0 [0, 0, 0] = parts ([c0, c1, c2, c3] ++ [c4, c5, c6, c7, c8, c9]) 0 0 ([0, 0, 0].set 0 0) := rfl
  show (match parts [c0, c1, c2, c3, c4, c5, c6, c7, c8, c9] 0 0 [0, 0, 0] with | some ps => day (ps.getD 0 0) (ps.getD 1 0) (ps.getD 2 0) | none => (0, 12)) = _
  rw [e1, g1]
  generalize numL 0 [c0, c1, c2, c3] = Y at *
  obtain ⟨y, yb⟩ := Y
  cases yb with
  | false => rw [if_neg (show ¬ false = true by decide), if_neg (fun h => by cases h.2.2.1)]
  | true =>
    rw [if_pos rfl]
    show (match parts (c4 :: [c5, c6, c7, c8, c9]) 4 0 ([0, 0, 0].set 0 y) with | some ps => day (ps.getD 0 0) (ps.getD 1 0) (ps.getD 2 0) | none => (0, 12)) = _
    rw [parts_dash _ _ _ _ _ (.inl rfl)]
    by_cases h4 : c4.toNat = 45
    · rw [if_pos h4]
      have g2 := parts_group 1 [y, 0, 0] (by simp) [c7, c8, c9] [c5, c6] 5 0 (fun j h1 h2 => by simp at h2; omega)
      have e2 : parts [c5, c6, c7, c8, c9] (4 + 1) (0 + 1) ([0, 0, 0].set 0 y) = parts ([c5, c6] ++ [c7, c8, c9]) 5 1 ([y, 0, 0].set 1 0) := rfl
      rw [e2, g2]
      generalize numL 0 [c5, c6] = M at *
      obtain ⟨m, mb⟩ := M
      cases mb with
      | false => rw [if_neg (show ¬ false = true by decide), if_neg (fun h => by cases h.2.2.2.1)]
      | true =>
        rw [if_pos rfl]
        show (match parts (c7 :: [c8, c9]) 7 1 ([y, 0, 0].set 1 m) with | some ps => day (ps.getD 0 0) (ps.getD 1 0) (ps.getD 2 0) | none => (0, 12)) = _
        rw [parts_dash _ _ _ _ _ (.inr rfl)]
        by_cases h7 : c7.toNat = 45
        · rw [if_pos h7]
          have g3 := parts_group 2 [y, m, 0] (by simp) [] [c8, c9] 8 0 (fun j h1 h2 => by simp at h2; omega)
          have e3 : parts [c8, c9] (7 + 1) (1 + 1) ([y, 0, 0].set 1 m) = parts ([c8, c9] ++ []) 8 2 ([y, m, 0].set 2 0) := rfl
          rw [e3, g3]
          generalize numL 0 [c8, c9] = D at *
          obtain ⟨d, db⟩ := D
          cases db with
          | false => rw [if_neg (show ¬ false = true by decide), if_neg (fun h => by cases h.2.2.2.2)]
          | true => rw [if_pos rfl, if_pos ⟨h4, h7, rfl, rfl, rfl⟩]; rfl
        · rw [if_neg h7, if_neg (fun h => h7 h.2.1)]
    · rw [if_neg h4, if_neg (fun h => h4 h.1)]
theorem ten (s : ByteArray) (h : s.size = 10) : ∃ c0 c1 c2 c3 c4 c5 c6 c7 c8 c9 : UInt8, s = ⟨#[c0, c1, c2, c3, c4, c5, c6, c7, c8, c9]⟩ := by
  obtain ⟨⟨l⟩⟩ := s
  have hl : l.length = 10 := h
  match l, hl with
  | [c0, c1, c2, c3, c4, c5, c6, c7, c8, c9], _ => exact ⟨c0, c1, c2, c3, c4, c5, c6, c7, c8, c9, rfl⟩
end Go.Proofs.YthakhcnpiobpgaaDoor.PureParseT02
