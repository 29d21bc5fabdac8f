/- Laws of the tree, said plainly: a path leads to the root; its sides are the index's. -/
import Derived.Test.YtcikhbamdbphaaaMerH
namespace Go.Proofs.Ytcikhbamdbphaaa.Mer
open Go.RowKit
theorem hgt_up {l : List Int} (h : 1 < l.length) : hgt l = hgt (up l) + 1 := by
  obtain ⟨h1, h2⟩ := hgt_spec (up l)
  refine hgt_eq (by rw [← rowN_up]; exact h1) (fun j hj => ?_)
  cases j with
  | zero => exact h
  | succ j => rw [← rowN_up]; exact h2 j (by omega)
theorem hgt_one {l : List Int} (h : l.length ≤ 1) : hgt l = 0 := hgt_eq (i := 0) h (fun j hj => by omega)
theorem top_up {l : List Int} (h : 1 < l.length) : top l = top (up l) := by
  rw [top, hgt_up h, ← rowN_up, ← top]
theorem top_one {l : List Int} (h : l.length ≤ 1) : top l = l.getD 0 0 := by rw [top, hgt_one h]; rfl
theorem pathN_up (l : List Int) (q : Nat) : ∀ n, pathN l q (n + 1) = steps l q ++ pathN (up l) (q / 2) n
  | 0 => by simp [pathN, rowN]
  | n + 1 => by
    rw [pathN, pathN_up l q n, pathN, List.append_assoc, rowN_up]
    congr 3
    rw [Nat.pow_succ, Nat.mul_comm, ← Nat.div_div_eq_div_mul]
theorem path_up {l : List Int} (h : 1 < l.length) (q : Nat) : path l q = steps l q ++ path (up l) (q / 2) := by
  rw [path, hgt_up h, pathN_up]; rfl
theorem path_one {l : List Int} (h : l.length ≤ 1) : path l 0 = [] := by
  rw [path, hgt_one h, pathN_up]
  have : ¬ sib 0 < l.length := by unfold sib; simp; omega
  simp [pathN, steps, this]
theorem up_getD {l : List Int} {k : Nat} (h : 2 * k + 1 < l.length) : (up l).getD k 0 = pair (l.getD (2 * k) 0) (l.getD (2 * k + 1) 0) := by
  rw [List.getD_eq_getElem?_getD, up_get, if_pos h]; rfl
theorem up_getD_last {l : List Int} {k : Nat} (h : ¬ 2 * k + 1 < l.length) : (up l).getD k 0 = l.getD (2 * k) 0 := by
  rw [List.getD_eq_getElem?_getD, up_get, if_neg h, List.getD_eq_getElem?_getD]
theorem sib_lt' (q : Nat) : decide (sib q < q) = decide (q % 2 = 1) := by
  have : sib q < q ↔ q % 2 = 1 := by unfold sib; split <;> omega
  simp [this]
theorem getD_last_cons (t : ByteArray) {ts : List ByteArray} (h : ts ≠ []) : (t :: ts).getD ((t :: ts).length - 1) ByteArray.empty = ts.getD (ts.length - 1) ByteArray.empty := by
  cases ts with
  | nil => exact absurd rfl h
  | cons a b => simp
theorem T_ne {s i : Nat} {t : ByteArray} {r : List (Int × Bool)} {ts : List ByteArray} (h : T s i t r = some ts) : ts ≠ [] :=
  (tx_props (max 17 t.size) (Nat.le_max_left _ _) _ _ _ _ _ _ h (Nat.le_max_right _ _)).1
theorem node_up {l : List Int} {q : Nat} (hq : q < l.length) (hs : sib q < l.length) : Dig.sum (nodeT (l.getD (sib q) 0) (l.getD q 0) (decide (sib q < q))) = (up l).getD (q / 2) 0 := by
  rw [sib_lt' q]
  by_cases hp : q % 2 = 1
  · have e1 : sib q = 2 * (q / 2) := by unfold sib; rw [if_neg (by omega)]; omega
    have e2 : q = 2 * (q / 2) + 1 := by omega
    rw [up_getD (by omega), nodeT, if_pos (by simpa using hp), e1, ← e2, pair]
  · have e1 : sib q = 2 * (q / 2) + 1 := by unfold sib; rw [if_pos (by omega)]; omega
    have e2 : q = 2 * (q / 2) := by omega
    rw [up_getD (by omega), nodeT, if_neg (by simpa using hp), e1, ← e2, pair]
theorem sound (n : Nat) : ∀ (l : List Int) (q : Nat) (t : ByteArray), l.length ≤ n → q < l.length → Dig.sum t = l.getD q 0 →
    ∃ ts, T l.length q t (path l q) = some ts ∧ Dig.sum (ts.getD (ts.length - 1) ByteArray.empty) = top l := by
  induction n with
  | zero => intro l q t hn hq _; omega
  | succ n sound =>
    intro l q t hn hq ht
    by_cases h1 : 1 < l.length
    · have hul := up_length l
      by_cases hs : sib q < l.length
      · have hsq := sib_lt' q
        have hnode := node_up hq hs
        rw [← ht] at hnode
        obtain ⟨ts, h2, h3⟩ := sound (up l) (q / 2) _ (by omega) (by omega) hnode
        refine ⟨t :: ts, ?_, ?_⟩
        · rw [path_up h1, steps, if_pos hs, List.singleton_append, T_step h1 hs hsq, ← hul, h2]; rfl
        · rw [getD_last_cons t (T_ne h2), h3, top_up h1]
      · have hs' : l.length ≤ sib q := by omega
        have hev : q % 2 = 0 := by
          by_cases h : q % 2 = 0
          · exact h
          · unfold sib at hs'; rw [if_neg h] at hs'; omega
        have e2 : q = 2 * (q / 2) := by omega
        have hl : ¬ 2 * (q / 2) + 1 < l.length := by unfold sib at hs'; rw [if_pos hev] at hs'; omega
        obtain ⟨ts, h2, h3⟩ := sound (up l) (q / 2) t (by omega) (by omega) (by rw [up_getD_last hl, ← e2]; exact ht)
        refine ⟨ts, ?_, by rw [h3, top_up h1]⟩
        rw [path_up h1, steps, if_neg hs, List.nil_append, T_skip h1 hs', ← hul, h2]
    · obtain rfl : q = 0 := by omega
      have h2 : l.length = 1 := by omega
      refine ⟨[t], ?_, ?_⟩
      · rw [path_one (by omega), h2, T_end]
      · rw [top_one (by omega), ← ht]; rfl
theorem path_ok : ∀ (n : Nat) (l : List Int) (q : Nat), OkR l → ∀ p ∈ pathN l q n, 0 ≤ p.1 ∧ p.1 ≤ 18446744073709551615
  | 0, _, _, _, p, hp => by simp [pathN] at hp
  | n + 1, l, q, hl, p, hp => by
    rw [pathN, List.mem_append] at hp
    rcases hp with hp | hp
    · exact path_ok n l q hl p hp
    · unfold steps at hp
      split at hp
      · rename_i hs
        obtain rfl := List.mem_singleton.1 hp
        have := rowN_ok hl n (rowN l n)[sib (q / 2 ^ n)] (List.getElem_mem hs)
        simpa [List.getD_eq_getElem?_getD, hs] using this
      · cases hp
/-- The sides of the steps of an index. -/
def sidesF : Nat → Nat → Nat → List Bool
  | 0, _, _ => []
  | k + 1, s, i => if 1 < s then (if s ≤ sib i then sidesF k ((s + 1) / 2) (i / 2) else decide (i % 2 = 1) :: sidesF k ((s + 1) / 2) (i / 2)) else []
theorem tx_sides : ∀ (k s i : Nat) (t : ByteArray) (r : List (Int × Bool)) (ts : List ByteArray), 1 ≤ s → tx k s i t r = some ts → r.map (·.2) = sidesF k s i
  | 0, s, i, t, r, ts, _, h => by simp [tx] at h
  | k + 1, s, i, t, r, ts, h1, h => by
    rw [tx] at h
    rw [sidesF]
    by_cases hc : 1 < s ∧ s ≤ sib i
    · rw [if_pos hc] at h
      rw [if_pos hc.1, if_pos hc.2]
      exact tx_sides k _ _ _ _ _ (by omega) h
    · rw [if_neg hc] at h
      by_cases h2 : s = 1
      · rw [if_pos h2] at h
        rw [if_neg (by omega)]
        split at h
        · rename_i he
          rw [List.isEmpty_iff] at he
          subst he; rfl
        · cases h
      · rw [if_neg h2] at h
        rw [if_pos (by omega), if_neg (by omega)]
        split at h
        · cases h
        · split at h
          · rename_i he hp
            obtain ⟨l, hl, _⟩ := Option.map_eq_some_iff.1 h
            cases r with
            | nil => simp at he
            | cons p r =>
              have := tx_sides k _ _ _ _ _ (by omega) hl
              simp only [List.headD_cons, List.tail_cons] at hp this
              rw [List.map_cons, this, hp]
          · cases h
theorem texts_sides {s i : Int} {leaf leaf' : ByteArray} {r r' : List (Int × Bool)} {ts ts' : List ByteArray} (h : texts s i leaf r = some ts) (h' : texts s i leaf' r' = some ts') : r.map (·.2) = r'.map (·.2) := by
  unfold texts at h h'
  split at h
  · rename_i hc
    rw [if_pos hc] at h'
    rw [tx_sides _ _ _ _ _ _ (by omega) h, tx_sides _ _ _ _ _ _ (by omega) h']
  · cases h
theorem verify_texts {root s i : Int} {leaf : ByteArray} {r : List (Int × Bool)} (h : verifyB root s i leaf r = true) : ∃ ts, texts s i leaf r = some ts ∧ Dig.sum (ts.getD (ts.length - 1) ByteArray.empty) = root := by
  unfold verifyB at h
  split at h
  · rename_i ts hts
    exact ⟨ts, hts, by simpa using h⟩
  · cases h
/-- The path of a leaf is accepted. -/
theorem accepted (ls : List ByteArray) (q : Nat) (hq : q < ls.length) (h : ls.length ≤ 1024) : verifyB (top (ls.map leaf)) ls.length q (ls.getD q ByteArray.empty) (path (ls.map leaf) q) = true := by
  obtain ⟨ts, h1, h2⟩ := sound _ (ls.map leaf) q (leafText (ls.getD q ByteArray.empty)) (Nat.le_refl _) (by simpa using hq) (by
    rw [List.getD_eq_getElem?_getD, List.getD_eq_getElem?_getD, List.getElem?_map, List.getElem?_eq_getElem hq]; rfl)
  unfold verifyB texts
  rw [if_pos (by omega), Int.toNat_natCast, Int.toNat_natCast]
  rw [List.length_map] at h1
  rw [h1]
  simpa using h2
end Go.Proofs.Ytcikhbamdbphaaa.Mer
