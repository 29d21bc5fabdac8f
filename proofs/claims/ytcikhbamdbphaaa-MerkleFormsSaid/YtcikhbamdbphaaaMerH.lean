/- The height of a tree, its root and its paths, said plainly. -/
import Derived.Test.YtcikhbamdbphaaaMerP
namespace Go.Proofs.Ytcikhbamdbphaaa.Mer
open Go.RowKit
def hgtF : Nat → List Int → Nat
  | 0, _ => 0
  | k + 1, l => if 1 < l.length then hgtF k (up l) + 1 else 0
def hgt (l : List Int) : Nat := hgtF l.length l
theorem hgtF_eq : ∀ (k : Nat) (l : List Int) (i : Nat), l.length ≤ k → (rowN l i).length ≤ 1 → (∀ j, j < i → 1 < (rowN l j).length) → hgtF k l = i
  | 0, l, i, hk, h1, h2 => by
    cases i with
    | zero => rfl
    | succ i => have := h2 0 (by omega); simp [rowN] at this; omega
  | k + 1, l, i, hk, h1, h2 => by
    cases i with
    | zero => rw [hgtF, if_neg (by simp [rowN] at h1; omega)]
    | succ i =>
      have h0 := h2 0 (by omega)
      simp only [rowN] at h0
      have hr : ∀ j, rowN (up l) j = rowN l (j + 1) := fun j => by
        induction j with
        | zero => rfl
        | succ j ih => rw [rowN, ih, ← rowN]
      rw [hgtF, if_pos h0, hgtF_eq k (up l) i (by rw [up_length]; omega) (by rw [hr]; exact h1) (fun j hj => by rw [hr]; exact h2 (j + 1) (by omega))]
theorem hgt_eq {l : List Int} {i : Nat} (h1 : (rowN l i).length ≤ 1) (h2 : ∀ j, j < i → 1 < (rowN l j).length) : hgt l = i := hgtF_eq _ _ _ (Nat.le_refl _) h1 h2
theorem rowN_up (l : List Int) : ∀ j, rowN (up l) j = rowN l (j + 1)
  | 0 => rfl
  | j + 1 => by rw [rowN, rowN_up l j, ← rowN]
/-- There is such a height. -/
theorem hgt_ex : ∀ (k : Nat) (l : List Int), l.length ≤ k → ∃ i, (rowN l i).length ≤ 1 ∧ (∀ j, j < i → 1 < (rowN l j).length)
  | 0, l, h => ⟨0, by simp [rowN]; omega, fun j hj => by omega⟩
  | k + 1, l, h => by
    by_cases h1 : 1 < l.length
    · obtain ⟨i, h2, h3⟩ := hgt_ex k (up l) (by rw [up_length]; omega)
      refine ⟨i + 1, by rw [← rowN_up]; exact h2, fun j hj => ?_⟩
      cases j with
      | zero => exact h1
      | succ j => rw [← rowN_up]; exact h3 j (by omega)
    · exact ⟨0, by simp [rowN]; omega, fun j hj => by omega⟩
theorem hgt_spec (l : List Int) : (rowN l (hgt l)).length ≤ 1 ∧ (∀ j, j < hgt l → 1 < (rowN l j).length) := by
  obtain ⟨i, h1, h2⟩ := hgt_ex _ l (Nat.le_refl _)
  rw [hgt_eq h1 h2]
  exact ⟨h1, h2⟩
def top (l : List Int) : Int := (rowN l (hgt l)).getD 0 0
/-- The steps of a row. -/
def steps (row : List Int) (q : Nat) : List (Int × Bool) := if sib q < row.length then [(row.getD (sib q) 0, decide (sib q < q))] else []
def pathN (l : List Int) (idx : Nat) : Nat → List (Int × Bool)
  | 0 => []
  | i + 1 => pathN l idx i ++ steps (rowN l i) (idx / 2 ^ i)
def path (l : List Int) (idx : Nat) : List (Int × Bool) := pathN l idx (hgt l + 1)
def rootF (ls : List ByteArray) : Int × Int := if ls.length = 0 then (0, 1) else if 1024 < ls.length then (0, 2) else (top (ls.map leaf), 0)
def pathF (ls : List ByteArray) (i : Int) : List (Int × Bool) × Int := if ls.length = 0 then ([], 1) else if 1024 < ls.length then ([], 2) else if i < 0 ∨ (ls.length : Int) ≤ i then ([], 1) else (path (ls.map leaf) i.toNat, 0)
end Go.Proofs.Ytcikhbamdbphaaa.Mer
