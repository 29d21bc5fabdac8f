/- The tree of digests, said plainly. -/
import Derived.Test.YtcikhbamdbphaaaStubDg
namespace Go.Proofs.Ytcikhbamdbphaaa.Mer
open Go.RowKit
/-- The byte string of a leaf. -/
def leafText (s : ByteArray) : ByteArray := (⟨#[0]⟩ : ByteArray) ++ s
def leaf (s : ByteArray) : Int := Dig.sum (leafText s)
def pair (a b : Int) : Int := Dig.sum (Dig.pairS a b)
/-- The row above a row. -/
def up : List Int → List Int
  | x :: y :: r => pair x y :: up r
  | l => l
theorem up_length : ∀ l : List Int, (up l).length = (l.length + 1) / 2
  | [] => rfl
  | [_] => by simp [up]
  | x :: y :: r => by
    simp only [up, List.length_cons, up_length r]
    omega
/-- The rows of the tree over a row, from below; the last one has one digest. -/
def rows : Nat → List Int → List (List Int)
  | 0, l => [l]
  | k + 1, l => if 1 < l.length then l :: rows k (up l) else [l]
def root : Nat → List Int → Int
  | 0, l => l.getD 0 0
  | k + 1, l => if 1 < l.length then root k (up l) else l.getD 0 0
theorem up_get : ∀ (l : List Int) (k : Nat), (up l)[k]? = if 2 * k + 1 < l.length then some (pair (l.getD (2 * k) 0) (l.getD (2 * k + 1) 0)) else l[2 * k]?
  | [], k => by simp [up]
  | [x], k => by
    cases k with
    | zero => simp [up]
    | succ k => simp [up]
  | x :: y :: r, 0 => by simp [up]
  | x :: y :: r, k + 1 => by
    have h := up_get r k
    have e : 2 * (k + 1) = 2 * k + 1 + 1 := by omega
    rw [up, List.getElem?_cons_succ, h, e]
    simp only [List.length_cons, List.getD_cons_succ, List.getElem?_cons_succ]
    by_cases hc : 2 * k + 1 < r.length
    · rw [if_pos hc, if_pos (by omega)]
    · rw [if_neg hc, if_neg (by omega)]
def OkR (l : List Int) : Prop := ∀ x ∈ l, 0 ≤ x ∧ x ≤ 18446744073709551615
theorem sum_range (s : ByteArray) : 0 ≤ Dig.sum s ∧ Dig.sum s ≤ 18446744073709551615 := DigA.u_range _
theorem up_ok : ∀ l : List Int, OkR l → OkR (up l)
  | [], h => h
  | [_], h => by simpa [up] using h
  | x :: y :: r, h => by
    intro z hz
    rw [up, List.mem_cons] at hz
    rcases hz with rfl | hz
    · exact sum_range _
    · exact up_ok r (fun a ha => h a (by simp [ha])) z hz
/-- The i-th row. -/
def rowN (l : List Int) : Nat → List Int
  | 0 => l
  | i + 1 => up (rowN l i)
theorem rowN_ok {l : List Int} (h : OkR l) : ∀ i, OkR (rowN l i)
  | 0 => h
  | i + 1 => up_ok _ (rowN_ok h i)
theorem leaves_ok (ls : List ByteArray) : OkR (ls.map leaf) := by
  intro x hx
  obtain ⟨s, _, rfl⟩ := List.mem_map.1 hx
  exact sum_range _
theorem up_take (l : List Int) (k : Nat) (h : 2 * k + 1 < l.length) : (up l).take (k + 1) = (up l).take k ++ [pair l[2 * k] l[2 * k + 1]] := by
  rw [List.take_add_one, up_get, if_pos h, List.getD_eq_getElem?_getD, List.getD_eq_getElem?_getD, List.getElem?_eq_getElem (by omega), List.getElem?_eq_getElem h]; rfl
theorem up_take_last (l : List Int) (k : Nat) (h : 2 * k + 1 = l.length) : (up l).take (k + 1) = (up l).take k ++ [l[2 * k]] := by
  rw [List.take_add_one, up_get, if_neg (by omega), List.getElem?_eq_getElem (by omega)]; rfl
theorem rowN_len (l : List Int) : ∀ i, (∀ j, j < i → 1 < (rowN l j).length) → i + (rowN l i).length ≤ l.length
  | 0, _ => by simp [rowN]
  | i + 1, h => by
    have h1 := rowN_len l i (fun j hj => h j (by omega))
    have h2 := h i (by omega)
    rw [rowN, up_length]
    omega
end Go.Proofs.Ytcikhbamdbphaaa.Mer
