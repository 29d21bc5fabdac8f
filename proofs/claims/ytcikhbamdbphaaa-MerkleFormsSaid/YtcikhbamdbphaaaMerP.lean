/- The byte strings of a leaf and a path, said plainly. -/
import Derived.Test.YtcikhbamdbphaaaMer
namespace Go.Proofs.Ytcikhbamdbphaaa.Mer
open Go.RowKit
/-- The sibling's place. -/
def sib (q : Nat) : Nat := if q % 2 = 0 then q + 1 else q - 1
def nodeT (x d : Int) (l : Bool) : ByteArray := if l = true then Dig.pairS x d else Dig.pairS d x
/-- The strings from a position of a row of s digests upwards (fuel k). -/
def tx : Nat → Nat → Nat → ByteArray → List (Int × Bool) → Option (List ByteArray)
  | 0, _, _, _, _ => none
  | k + 1, s, i, t, r =>
    if 1 < s ∧ s ≤ sib i then tx k ((s + 1) / 2) (i / 2) t r
    else if s = 1 then (if r.isEmpty = true then some [t] else none)
    else if r.isEmpty = true then none
    else if (r.headD (0, false)).2 = decide (i % 2 = 1) then (tx k ((s + 1) / 2) (i / 2) (nodeT (r.headD (0, false)).1 (Dig.sum t) (r.headD (0, false)).2) r.tail).map (t :: ·) else none
theorem tx_fuel : ∀ (k s i : Nat) (t : ByteArray) (r : List (Int × Bool)), 1 ≤ s → s ≤ k → tx k s i t r = tx s s i t r
  | 0, s, _, _, _, h1, h2 => by omega
  | k + 1, s, i, t, r, h1, h2 => by
    obtain ⟨m, rfl⟩ : ∃ m, s = m + 1 := ⟨s - 1, by omega⟩
    by_cases hs : 1 < m + 1
    · have e1 : ∀ t r, tx k ((m + 1 + 1) / 2) (i / 2) t r = tx m ((m + 1 + 1) / 2) (i / 2) t r := fun t r => by
        rw [tx_fuel k _ _ _ _ (by omega) (by omega), tx_fuel m _ _ _ _ (by omega) (by omega)]
      rw [tx, tx]
      simp only [e1]
    · obtain rfl : m = 0 := by omega
      rw [tx, tx]
      simp
def T (s i : Nat) (t : ByteArray) (r : List (Int × Bool)) : Option (List ByteArray) := tx s s i t r
theorem T_skip {s i : Nat} {t : ByteArray} {r : List (Int × Bool)} (h1 : 1 < s) (h2 : s ≤ sib i) : T s i t r = T ((s + 1) / 2) (i / 2) t r := by
  obtain ⟨m, rfl⟩ : ∃ m, s = m + 1 := ⟨s - 1, by omega⟩
  unfold T
  rw [tx, if_pos ⟨h1, h2⟩, tx_fuel m _ _ _ _ (by omega) (by omega)]
theorem T_end (i : Nat) (t : ByteArray) : T 1 i t [] = some [t] := by simp [T, tx]
theorem T_long (i : Nat) (t : ByteArray) (p : Int × Bool) (r : List (Int × Bool)) : T 1 i t (p :: r) = none := by simp [T, tx]
theorem T_short {s i : Nat} {t : ByteArray} (h1 : 1 < s) (h2 : sib i < s) : T s i t [] = none := by
  obtain ⟨m, rfl⟩ : ∃ m, s = m + 1 := ⟨s - 1, by omega⟩
  unfold T
  rw [tx, if_neg (by omega), if_neg (by omega)]
  simp
theorem T_side {s i : Nat} {t : ByteArray} {p : Int × Bool} {r : List (Int × Bool)} (h1 : 1 < s) (h2 : sib i < s) (h3 : p.2 ≠ decide (i % 2 = 1)) : T s i t (p :: r) = none := by
  obtain ⟨m, rfl⟩ : ∃ m, s = m + 1 := ⟨s - 1, by omega⟩
  unfold T
  rw [tx, if_neg (by omega), if_neg (by omega)]
  rw [if_neg (by simp), if_neg (show ¬ ((p :: r).headD (0, false)).2 = decide (i % 2 = 1) from h3)]
theorem T_step {s i : Nat} {t : ByteArray} {p : Int × Bool} {r : List (Int × Bool)} (h1 : 1 < s) (h2 : sib i < s) (h3 : p.2 = decide (i % 2 = 1)) :
    T s i t (p :: r) = (T ((s + 1) / 2) (i / 2) (nodeT p.1 (Dig.sum t) p.2) r).map (t :: ·) := by
  obtain ⟨m, rfl⟩ : ∃ m, s = m + 1 := ⟨s - 1, by omega⟩
  unfold T
  rw [tx, if_neg (by omega), if_neg (by omega)]
  rw [if_neg (by simp), if_pos (show ((p :: r).headD (0, false)).2 = decide (i % 2 = 1) from h3), tx_fuel m _ _ _ _ (by omega) (by omega)]
  rfl
/-- The strings of a tree's leaf. -/
def texts (s i : Int) (leaf : ByteArray) (r : List (Int × Bool)) : Option (List ByteArray) := if 1 ≤ s ∧ s ≤ 1024 ∧ 0 ≤ i ∧ i < s then T s.toNat i.toNat (leafText leaf) r else none
theorem tx_props (M : Nat) (hM : 17 ≤ M) : ∀ (k s i : Nat) (t : ByteArray) (r : List (Int × Bool)) (ts : List ByteArray), tx k s i t r = some ts → t.size ≤ M → ts ≠ [] ∧ (∀ x ∈ ts, x.size ≤ M) ∧ ts.head? = some t
  | 0, s, i, t, r, ts, h, _ => by simp [tx] at h
  | k + 1, s, i, t, r, ts, h, ht => by
    rw [tx] at h
    split at h
    · exact tx_props M hM k _ _ _ _ _ h ht
    · split at h
      · split at h
        · cases h
          exact ⟨by simp, by simpa using ht, rfl⟩
        · cases h
      · split at h
        · cases h
        · split at h
          · rename_i hp
            obtain ⟨l, hl, rfl⟩ := Option.map_eq_some_iff.1 h
            have h2 := tx_props M hM k _ _ _ _ _ hl (by unfold nodeT; split <;> rw [Dig.pairS_size] <;> exact hM)
            refine ⟨by simp, ?_, rfl⟩
            intro x hx
            rcases List.mem_cons.1 hx with rfl | hx
            · exact ht
            · exact h2.2.1 x hx
          · cases h
theorem tx_length : ∀ (k s i : Nat) (t t' : ByteArray) (r r' : List (Int × Bool)) (ts ts' : List ByteArray), tx k s i t r = some ts → tx k s i t' r' = some ts' → ts.length = ts'.length
  | 0, s, i, t, t', r, r', ts, ts', h, _ => by simp [tx] at h
  | k + 1, s, i, t, t', r, r', ts, ts', h, h' => by
    rw [tx] at h h'
    by_cases h1 : 1 < s ∧ s ≤ sib i
    · rw [if_pos h1] at h h'
      exact tx_length k _ _ _ _ _ _ _ _ h h'
    · rw [if_neg h1] at h h'
      by_cases h2 : s = 1
      · rw [if_pos h2] at h h'
        split at h
        · split at h'
          · cases h; cases h'; rfl
          · cases h'
        · cases h
      · rw [if_neg h2] at h h'
        split at h
        · cases h
        · split at h'
          · cases h'
          · split at h
            · split at h'
              · obtain ⟨l, hl, rfl⟩ := Option.map_eq_some_iff.1 h
                obtain ⟨l', hl', rfl⟩ := Option.map_eq_some_iff.1 h'
                simp [tx_length k _ _ _ _ _ _ _ _ hl hl']
              · cases h'
            · cases h
theorem texts_props {s i : Int} {leaf : ByteArray} {r : List (Int × Bool)} {ts : List ByteArray} (h : texts s i leaf r = some ts) (hs : leaf.size ≤ 140737488351232) : 0 < ts.length ∧ (∀ x ∈ ts, x.size ≤ 140737488355328) := by
  unfold texts at h
  split at h
  · have := tx_props 140737488355328 (by decide) _ _ _ _ _ _ h (by unfold leafText; rw [ByteArray.size_append]; show 1 + _ ≤ _; omega)
    exact ⟨List.length_pos_iff.2 this.1, this.2.1⟩
  · cases h
theorem texts_length {s i : Int} {a b : ByteArray} {r r' : List (Int × Bool)} {ts ts' : List ByteArray} (h : texts s i a r = some ts) (h' : texts s i b r' = some ts') : ts.length = ts'.length := by
  unfold texts at h h'
  split at h
  · rename_i hc
    rw [if_pos hc] at h'
    exact tx_length _ _ _ _ _ _ _ _ _ h h'
  · cases h
def verifyB (root s i : Int) (leaf : ByteArray) (r : List (Int × Bool)) : Bool := match texts s i leaf r with
  | some ts => Dig.sum (ts.getD (ts.length - 1) ByteArray.empty) == root
  | none => false
def findC : List ByteArray → List ByteArray → ByteArray × ByteArray × Bool
  | x :: xs, y :: ys => if x = y then findC xs ys else if Dig.sum x = Dig.sum y then (x, y, true) else findC xs ys
  | _, _ => (⟨#[]⟩, ⟨#[]⟩, false)
def FC (l m : List ByteArray) (k : Nat) : ByteArray × ByteArray × Bool := findC (l.drop k) (m.drop k)
theorem drop_getD (l : List ByteArray) (k : Nat) (h : k < l.length) : l.drop k = l.getD k ByteArray.empty :: l.drop (k + 1) := by
  rw [List.getD_eq_getElem?_getD, List.getElem?_eq_getElem h, List.drop_eq_getElem_cons h]; rfl
theorem FC_end (l m : List ByteArray) : FC l m l.length = (⟨#[]⟩, ⟨#[]⟩, false) := by
  unfold FC
  rw [List.drop_length]
  cases m.drop l.length <;> rfl
theorem FC_at {l m : List ByteArray} {k : Nat} (h1 : k < l.length) (h2 : k < m.length) :
    FC l m k = if l.getD k ByteArray.empty = m.getD k ByteArray.empty then FC l m (k + 1) else if Dig.sum (l.getD k ByteArray.empty) = Dig.sum (m.getD k ByteArray.empty) then (l.getD k ByteArray.empty, m.getD k ByteArray.empty, true) else FC l m (k + 1) := by
  unfold FC
  rw [drop_getD l k h1, drop_getD m k h2, findC]
def collF (s i : Int) (a : ByteArray) (r : List (Int × Bool)) (b : ByteArray) (r' : List (Int × Bool)) : ByteArray × ByteArray × Bool := match texts s i a r, texts s i b r' with
  | some l, some m => if Dig.sum (l.getD (l.length - 1) ByteArray.empty) = Dig.sum (m.getD (m.length - 1) ByteArray.empty) then findC l m else (⟨#[]⟩, ⟨#[]⟩, false)
  | _, _ => (⟨#[]⟩, ⟨#[]⟩, false)
theorem collF_some {s i : Int} {a b : ByteArray} {r r' : List (Int × Bool)} {l m : List ByteArray} (h : texts s i a r = some l) (h' : texts s i b r' = some m) :
    collF s i a r b r' = if Dig.sum (l.getD (l.length - 1) ByteArray.empty) = Dig.sum (m.getD (m.length - 1) ByteArray.empty) then FC l m 0 else (⟨#[]⟩, ⟨#[]⟩, false) := by
  unfold collF
  rw [h, h']
  simp only [FC, List.drop_zero]
theorem collF_none {s i : Int} {a b : ByteArray} {r r' : List (Int × Bool)} (h : texts s i a r = none ∨ texts s i b r' = none) : collF s i a r b r' = (⟨#[]⟩, ⟨#[]⟩, false) := by
  unfold collF
  rcases h with h | h
  · rw [h]
  · rw [h]
    split
    · rename_i h2; cases h2
    · rfl
end Go.Proofs.Ytcikhbamdbphaaa.Mer
