/- Laws of the tree, said plainly: binding, halves, change, lengths. -/
import Derived.Test.YtcikhbamdbphaaaMerL
set_option linter.unusedVariables false
set_option linter.unusedSimpArgs false
namespace Go.Proofs.Ytcikhbamdbphaaa.Mer
open Go.RowKit
theorem byte_toNat {x : Int} (h0 : 0 ≤ x) (h1 : x < 256) : ((UInt8.ofNat x.toNat).toNat : Int) = x := by
  rw [UInt8.toNat_ofNat']; omega
theorem str_inj : ∀ (xs ys : List Int), (∀ x ∈ xs, 0 ≤ x ∧ x < 256) → (∀ y ∈ ys, 0 ≤ y ∧ y < 256) → (strOfNums xs).data.toList = (strOfNums ys).data.toList → xs = ys
  | [], [], _, _, _ => rfl
  | [], _ :: _, _, _, h => by simp [strOfNums] at h
  | _ :: _, [], _, _, h => by simp [strOfNums] at h
  | x :: xs, y :: ys, hx, hy, h => by
    simp only [strOfNums, List.map_cons] at h
    injection h with h1 h2
    have e1 := byte_toNat (hx x (by simp)).1 (hx x (by simp)).2
    have e2 := byte_toNat (hy y (by simp)).1 (hy y (by simp)).2
    rw [h1, e2] at e1
    rw [e1, str_inj xs ys (fun a ha => hx a (by simp [ha])) (fun a ha => hy a (by simp [ha])) h2]
theorem by8_range {d : Int} (h0 : 0 ≤ d) (h1 : d ≤ 18446744073709551615) : ∀ x ∈ Dig.by8 d, 0 ≤ x ∧ x < 256 := by
  intro x hx
  simp only [Dig.by8, List.mem_cons, List.not_mem_nil, or_false] at hx
  rcases hx with rfl | rfl | rfl | rfl | rfl | rfl | rfl | rfl <;> omega
theorem by8_inj {a b : Int} (ha0 : 0 ≤ a) (ha1 : a ≤ 18446744073709551615) (hb0 : 0 ≤ b) (hb1 : b ≤ 18446744073709551615) (h : Dig.by8 a = Dig.by8 b) : a = b := by
  simp only [Dig.by8, List.cons.injEq, and_true] at h
  omega
def Okd (d : Int) : Prop := 0 ≤ d ∧ d ≤ 18446744073709551615
theorem pairS_data (a b : Int) : (Dig.pairS a b).data.toList = 1 :: ((strOfNums (Dig.by8 a)).data.toList ++ (strOfNums (Dig.by8 b)).data.toList) := by
  simp [Dig.pairS, ByteArray.data_append]
theorem strOf_len (xs : List Int) : (strOfNums xs).data.toList.length = xs.length := by simp [strOfNums]
theorem pairS_inj {a b c d : Int} (ha : Okd a) (hb : Okd b) (hc : Okd c) (hd : Okd d) (h : Dig.pairS a b = Dig.pairS c d) : a = c ∧ b = d := by
  have h1 : (Dig.pairS a b).data.toList = (Dig.pairS c d).data.toList := by rw [h]
  rw [pairS_data, pairS_data] at h1
  injection h1 with _ h2
  obtain ⟨h3, h4⟩ := List.append_inj h2 (by rw [strOf_len, strOf_len]; rfl)
  exact ⟨by8_inj ha.1 ha.2 hc.1 hc.2 (str_inj _ _ (by8_range ha.1 ha.2) (by8_range hc.1 hc.2) h3), by8_inj hb.1 hb.2 hd.1 hd.2 (str_inj _ _ (by8_range hb.1 hb.2) (by8_range hd.1 hd.2) h4)⟩
theorem nodeT_inj {x y d e : Int} {l : Bool} (hx : Okd x) (hy : Okd y) (hd : Okd d) (he : Okd e) (h : nodeT x d l = nodeT y e l) : x = y ∧ d = e := by
  unfold nodeT at h
  split at h
  · exact pairS_inj hx hd hy he h
  · exact (pairS_inj hd hx he hy h).symm
def hit (p : ByteArray × ByteArray × Bool) : Bool := p.2.2
theorem findC_self : ∀ l : List ByteArray, findC l l = (⟨#[]⟩, ⟨#[]⟩, false)
  | [] => rfl
  | x :: l => by rw [findC, if_pos rfl, findC_self l]
theorem findC_spec : ∀ l m : List ByteArray, ((findC l m).2.2 = true → (findC l m).1 ≠ (findC l m).2.1 ∧ Dig.sum (findC l m).1 = Dig.sum (findC l m).2.1) ∧ ((findC l m).2.2 = false → findC l m = (⟨#[]⟩, ⟨#[]⟩, false))
  | [], [] => ⟨fun h => (by cases h), fun _ => rfl⟩
  | [], _ :: _ => ⟨fun h => (by cases h), fun _ => rfl⟩
  | _ :: _, [] => ⟨fun h => (by cases h), fun _ => rfl⟩
  | x :: l, y :: m => by
    rw [findC]
    split
    · exact findC_spec l m
    · rename_i hne
      split
      · rename_i he
        exact ⟨fun _ => ⟨hne, he⟩, fun h => (by cases h)⟩
      · exact findC_spec l m
theorem findC_cons {x y : ByteArray} {l m : List ByteArray} (h : (findC l m).2.2 = true) : (findC (x :: l) (y :: m)).2.2 = true := by
  rw [findC]
  split
  · exact h
  · split
    · rfl
    · exact h
theorem findC_first {x y : ByteArray} {l m : List ByteArray} (h : x ≠ y) (he : Dig.sum x = Dig.sum y) : (findC (x :: l) (y :: m)).2.2 = true := by
  rw [findC, if_neg h, if_pos he]
theorem binding (k : Nat) : ∀ (s i : Nat) (t t' : ByteArray) (r r' : List (Int × Bool)) (l m : List ByteArray), (∀ p ∈ r, Okd p.1) → (∀ p ∈ r', Okd p.1) → tx k s i t r = some l → tx k s i t' r' = some m →
    Dig.sum (l.getD (l.length - 1) ByteArray.empty) = Dig.sum (m.getD (m.length - 1) ByteArray.empty) → (findC l m).2.2 = true ∨ (t = t' ∧ r = r') := by
  induction k with
  | zero => intro s i t t' r r' l m _ _ h; simp [tx] at h
  | succ k ih =>
    intro s i t t' r r' l m hr hr' h h' hs
    rw [tx] at h h'
    by_cases h1 : 1 < s ∧ s ≤ sib i
    · rw [if_pos h1] at h h'
      exact ih _ _ _ _ _ _ _ _ hr hr' h h' hs
    · rw [if_neg h1] at h h'
      by_cases h2 : s = 1
      · rw [if_pos h2] at h h'
        split at h
        · rename_i e1
          split at h'
          · rename_i e2
            cases h; cases h'
            rw [List.isEmpty_iff] at e1 e2
            subst e1 e2
            by_cases ht : t = t'
            · exact .inr ⟨ht, rfl⟩
            · exact .inl (findC_first ht (by simpa using hs))
          · cases h'
        · cases h
      · rw [if_neg h2] at h h'
        cases r with
        | nil => simp at h
        | cons p r =>
          cases r' with
          | nil => simp at h'
          | cons p' r' =>
            rw [if_neg (by simp)] at h h'
            by_cases e1 : p.2 = decide (i % 2 = 1)
            · rw [if_pos (show ((p :: r).headD (0, false)).2 = decide (i % 2 = 1) from e1)] at h
              by_cases e2 : p'.2 = decide (i % 2 = 1)
              · rw [if_pos (show ((p' :: r').headD (0, false)).2 = decide (i % 2 = 1) from e2)] at h'
                obtain ⟨l1, hl1, rfl⟩ := Option.map_eq_some_iff.1 h
                obtain ⟨m1, hm1, rfl⟩ := Option.map_eq_some_iff.1 h'
                replace hl1 : tx k ((s + 1) / 2) (i / 2) (nodeT p.1 (Dig.sum t) p.2) r = some l1 := hl1
                replace hm1 : tx k ((s + 1) / 2) (i / 2) (nodeT p'.1 (Dig.sum t') p'.2) r' = some m1 := hm1
                have hn1 := (tx_props _ (Nat.le_max_left 17 _) _ _ _ _ _ _ hl1 (Nat.le_max_right _ _)).1
                have hn2 := (tx_props _ (Nat.le_max_left 17 _) _ _ _ _ _ _ hm1 (Nat.le_max_right _ _)).1
                rw [getD_last_cons _ hn1, getD_last_cons _ hn2] at hs
                have e3 : p.2 = p'.2 := by rw [e1, e2]
                rcases ih _ _ _ _ _ _ _ _ (fun q hq => hr q (by simp [hq])) (fun q hq => hr' q (by simp [hq])) hl1 hm1 hs with hf | ⟨hn, hrr⟩
                · exact .inl (findC_cons hf)
                · rw [← e3] at hn
                  obtain ⟨q1, q2⟩ := nodeT_inj (hr p (by simp)) (hr' p' (by simp)) (sum_range t) (sum_range t') hn
                  by_cases ht : t = t'
                  · exact .inr ⟨ht, by rw [hrr, show p = p' from Prod.ext q1 e3]⟩
                  · exact .inl (findC_first ht q2)
              · rw [if_neg (show ¬ ((p' :: r').headD (0, false)).2 = decide (i % 2 = 1) from e2)] at h'
                cases h'
            · rw [if_neg (show ¬ ((p :: r).headD (0, false)).2 = decide (i % 2 = 1) from e1)] at h
              cases h
theorem leafText_inj {a b : ByteArray} (h : leafText a = leafText b) : a = b := by
  have h1 : (leafText a).data.toList = (leafText b).data.toList := by rw [h]
  simp [leafText, ByteArray.data_append] at h1
  exact ByteArray.ext h1
theorem texts_binding {root s i : Int} {a b : ByteArray} {r r' : List (Int × Bool)} (hr : ∀ p ∈ r, Okd p.1) (hr' : ∀ p ∈ r', Okd p.1) (h : verifyB root s i a r = true) (h' : verifyB root s i b r' = true) :
    (collF s i a r b r').2.2 = decide (a ≠ b ∨ r ≠ r') := by
  obtain ⟨l, h1, h2⟩ := verify_texts h
  obtain ⟨m, h3, h4⟩ := verify_texts h'
  rw [collF_some h1 h3, if_pos (by rw [h2, h4]), FC, List.drop_zero, List.drop_zero]
  by_cases he : a = b ∧ r = r'
  · obtain ⟨rfl, rfl⟩ := he
    rw [h1] at h3
    cases h3
    rw [findC_self]
    simp
  · have hd : decide (a ≠ b ∨ r ≠ r') = true := by
      by_cases e1 : a = b
      · by_cases e2 : r = r'
        · exact absurd ⟨e1, e2⟩ he
        · simp [e2]
      · simp [e1]
    rw [hd]
    unfold texts at h1 h3
    split at h1
    · rename_i hc
      rw [if_pos hc] at h3
      rcases binding _ _ _ _ _ _ _ _ _ hr hr' h1 h3 (by rw [h2, h4]) with hf | ⟨e1, e2⟩
      · exact hf
      · exact absurd ⟨leafText_inj e1, e2⟩ he
    · cases h1
theorem coll_spec (s i : Int) (a : ByteArray) (r : List (Int × Bool)) (b : ByteArray) (r' : List (Int × Bool)) :
    ((collF s i a r b r').2.2 = true → (collF s i a r b r').1 ≠ (collF s i a r b r').2.1 ∧ Dig.sum (collF s i a r b r').1 = Dig.sum (collF s i a r b r').2.1) ∧ ((collF s i a r b r').2.2 = false → collF s i a r b r' = (⟨#[]⟩, ⟨#[]⟩, false)) := by
  unfold collF
  split
  · split
    · exact findC_spec _ _
    · exact ⟨fun h => (by cases h), fun _ => rfl⟩
  · exact ⟨fun h => (by cases h), fun _ => rfl⟩
/-! ### halves -/
theorem up_append : ∀ (l m : List Int), l.length % 2 = 0 → up (l ++ m) = up l ++ up m
  | [], m, _ => by simp [up]
  | [_], _, h => by simp at h
  | x :: y :: l, m, h => by
    simp only [List.cons_append, up]
    rw [up_append l m (by simp at h; omega)]
theorem rowN_append (l m : List Int) : ∀ j, l.length = 2 ^ j → ∀ i, i ≤ j → rowN (l ++ m) i = rowN l i ++ rowN m i ∧ (rowN l i).length = 2 ^ (j - i)
  | j, h, 0, _ => ⟨rfl, h⟩
  | j, h, i + 1, hi => by
    obtain ⟨h1, h2⟩ := rowN_append l m j h i (by omega)
    have e : 2 ^ (j - i) = 2 * 2 ^ (j - (i + 1)) := by rw [← Nat.pow_succ']; congr 1; omega
    refine ⟨?_, by rw [rowN, up_length, h2, e]; omega⟩
    rw [rowN, h1, up_append _ _ (by rw [h2, e]; omega), ← rowN, ← rowN]
theorem rowN_stay {l : List Int} {i : Nat} (h : (rowN l i).length ≤ 1) : ∀ d, rowN l (i + d) = rowN l i
  | 0 => rfl
  | d + 1 => by
    rw [← Nat.add_assoc, rowN, rowN_stay h d]
    match rowN l i, h with
    | [], _ => rfl
    | [_], _ => rfl
theorem top_at {l : List Int} {i : Nat} (h : (rowN l i).length ≤ 1) : top l = (rowN l i).getD 0 0 := by
  obtain ⟨h1, h2⟩ := hgt_spec l
  rcases Nat.lt_or_ge i (hgt l) with hlt | hge
  · have := h2 i hlt; omega
  · obtain ⟨d, rfl⟩ : ∃ d, i = hgt l + d := ⟨i - hgt l, by omega⟩
    rw [rowN_stay h1, top]
theorem rowN_len_le (l : List Int) (j : Nat) : ∀ i, l.length ≤ 2 ^ j → i ≤ j → (rowN l i).length ≤ 2 ^ (j - i)
  | 0, h, _ => h
  | i + 1, h, hi => by
    have h1 := rowN_len_le l j i h (by omega)
    have e : 2 ^ (j - i) = 2 * 2 ^ (j - (i + 1)) := by rw [← Nat.pow_succ']; congr 1; omega
    rw [rowN, up_length]
    omega
theorem rowN_pos (l : List Int) (h : 0 < l.length) : ∀ i, 0 < (rowN l i).length
  | 0 => h
  | i + 1 => by have := rowN_pos l h i; rw [rowN, up_length]; omega
theorem halves {l m : List Int} {j : Nat} (hl : l.length = 2 ^ j) (h0 : 0 < m.length) (hm : m.length ≤ 2 ^ j) : top (l ++ m) = pair (top l) (top m) := by
  obtain ⟨h1, h2⟩ := rowN_append l m j hl j (Nat.le_refl _)
  have h3 := rowN_len_le m j j hm (Nat.le_refl _)
  have h4 := rowN_pos m h0 j
  rw [Nat.sub_self, Nat.pow_zero] at h2 h3
  have hu : rowN (l ++ m) (j + 1) = [pair (top l) (top m)] := by
    rw [rowN, h1, top_at (by omega : (rowN l j).length ≤ 1), top_at h3]
    match rowN l j, rowN m j, h2, h3, h4 with
    | [_], [_], _, _, _ => rfl
  rw [top_at (i := j + 1) (by rw [hu]; exact Nat.le_refl _), hu]; rfl
/-! ### another leaf -/
def Agree (l m : List Int) (q : Nat) : Prop := l.length = m.length ∧ ∀ k, k ≠ q → l.getD k 0 = m.getD k 0
theorem agree_up {l m : List Int} {q : Nat} (h : Agree l m q) : Agree (up l) (up m) (q / 2) := by
  refine ⟨by rw [up_length, up_length, h.1], fun k hk => ?_⟩
  by_cases hc : 2 * k + 1 < l.length
  · rw [up_getD hc, up_getD (by rw [← h.1]; exact hc), h.2 _ (by omega), h.2 _ (by omega)]
  · rw [up_getD_last hc, up_getD_last (by rw [← h.1]; exact hc), h.2 _ (by omega)]
theorem steps_agree {l m : List Int} {q : Nat} (h : Agree l m q) : steps l q = steps m q := by
  unfold steps
  rw [h.1, h.2 (sib q) (by unfold sib; split <;> omega)]
theorem pathN_agree (n : Nat) : ∀ {l m : List Int} {q : Nat}, Agree l m q → pathN l q n = pathN m q n := by
  induction n with
  | zero => intro l m q _; rfl
  | succ n ih => intro l m q h; rw [pathN_up, pathN_up, steps_agree h, ih (agree_up h)]
theorem hgt_agree (n : Nat) : ∀ {l m : List Int}, l.length ≤ n → l.length = m.length → hgt l = hgt m := by
  induction n with
  | zero => intro l m h h2; rw [hgt_one (by omega), hgt_one (by omega)]
  | succ n ih =>
    intro l m h h2
    by_cases h1 : 1 < l.length
    · rw [hgt_up h1, hgt_up (l := m) (by omega), ih (l := up l) (m := up m) (by rw [up_length]; omega) (by rw [up_length, up_length, h2])]
    · rw [hgt_one (by omega), hgt_one (by omega)]
theorem path_agree {l m : List Int} {q : Nat} (h : Agree l m q) : path l q = path m q := by
  rw [path, path, hgt_agree _ (Nat.le_refl _) h.1, pathN_agree _ h]
theorem agree_set (ls : List ByteArray) (q : Nat) (x : ByteArray) : Agree ((ls.set q x).map leaf) (ls.map leaf) q := by
  refine ⟨by simp, fun k hk => ?_⟩
  rw [List.getD_eq_getElem?_getD, List.getD_eq_getElem?_getD, List.getElem?_map, List.getElem?_map, List.getElem?_set_ne (fun e => hk e.symm)]
/-! ### lengths -/
theorem path_len (j : Nat) : ∀ (l : List Int) (q : Nat), q < l.length → l.length ≤ 2 ^ j → (path l q).length ≤ j ∧ (l.length = 2 ^ j → (path l q).length = j) := by
  induction j with
  | zero =>
    intro l q hq h
    rw [Nat.pow_zero] at h
    obtain rfl : q = 0 := by omega
    rw [path_one h]
    exact ⟨Nat.le_refl _, fun _ => rfl⟩
  | succ j ih =>
    intro l q hq h
    rw [Nat.pow_succ] at h
    have hul := up_length l
    by_cases h1 : 1 < l.length
    · obtain ⟨h2, h3⟩ := ih (up l) (q / 2) (by omega) (by omega)
      rw [path_up h1, List.length_append]
      have hst : (steps l q).length ≤ 1 := by unfold steps; split <;> simp
      refine ⟨by omega, fun he => ?_⟩
      rw [Nat.pow_succ] at he
      rw [h3 (by omega)]
      have hs : sib q < l.length := by unfold sib; split <;> omega
      rw [steps, if_pos hs, List.length_singleton]; omega
    · obtain rfl : q = 0 := by omega
      rw [path_one (by omega)]
      refine ⟨by simp, fun he => ?_⟩
      rw [Nat.pow_succ] at he
      have := Nat.two_pow_pos j
      omega
end Go.Proofs.Ytcikhbamdbphaaa.Mer
