/- The law DigestMatchesReference, said of the printed functions: the functions tell what the reference functions tell. -/
import Derived.Test.YtjjfbcpfmdbblaaDoorPureDigestTexts
namespace Go.Proofs.YtjjfbcpfmdbblaaDoor.PureDigestMatchesReference
open Go.RowKit Go.Proofs.YtjjfbcpfmdbblaaDoor Go.Proofs.YtjjfbcpfmdbblaaDoor.PAll Go.Proofs.YtjjfbcpfmdbblaaDoorW.PrintWords Go.Proofs.YtjjfbcpfmdbblaaDoorW.PrintMore Go.Proofs.YtjjfbcpfmdbblaaDoor.Stub
open Go.Proofs.YtjjfbcpfmdbblaaDoor.Dig Go.Proofs.YtjjfbcpfmdbblaaDoor.PureRef23 Go.Proofs.YtjjfbcpfmdbblaaDoor.PureDigestTexts

theorem nums_app (xs ys : List Int) : strOfNums xs ++ strOfNums ys = strOfNums (xs ++ ys) := by
  have : (strOfNums xs ++ strOfNums ys).data = (strOfNums (xs ++ ys)).data := by
    apply Array.toList_inj.1
    rw [app_toList, strOfNums_data, strOfNums_data, strOfNums_data, List.map_append]
  cases h1 : strOfNums xs ++ strOfNums ys
  cases h2 : strOfNums (xs ++ ys)
  rw [h1, h2] at this
  simp only at this
  rw [this]
theorem div_wrap (x : Int) (h0 : 0 ≤ x) (h1 : x ≤ 18446744073709551615) (c : Int) (hc : 0 < c) : IntKind.u64.wrap (Int.tdiv x c) = x / c := by
  rw [Int.tdiv_eq_ediv_of_nonneg h0]
  have h2 : 0 ≤ x / c := Int.ediv_nonneg h0 (Int.le_of_lt hc)
  have h3 : x / c ≤ x := Int.ediv_le_self _ h0
  simp only [IntKind.wrap, IntKind.bits, IntKind.signed, Bool.false_and, Bool.false_eq_true, if_false]
  exact Int.emod_eq_of_lt h2 (by show _ < (18446744073709551616 : Int); omega)
/-- One round of Eight. -/
theorem eight_step (k i : Nat) (x : Int) (h0 : 0 ≤ x) (h1 : x ≤ 18446744073709551615) (l : List Int) (hi : i < 8) (hl : l.length ≤ 8) :
    wageofficeref23_Eight.l0 (k + 1) x (strOfNums l) (i : Int) = wageofficeref23_Eight.l0 k (x / 256) (strOfNums (x % 256 :: l)) ((i + 1 : Nat) : Int) := by
  rw [wageofficeref23_Eight.l0]
  rw [if_pos (by omega), Option.bind_some, Int.tmod_eq_emod_of_nonneg h0, show x % 256 % 256 = x % 256 by omega, div_wrap x h0 h1 256 (by decide), wrap64_id (by omega) (by omega), nums_app]
  rw [if_pos (by rw [strOfNums_size, strOfNums_size]; simp; omega)]
  rfl
theorem Eight_eq (d : Int) (h0 : 0 ≤ d) (h1 : d ≤ 18446744073709551615) (k : Nat) (hk : 9 ≤ k) : wageofficeref23_Eight.f k d = some (strOfNums (by8 d)) := by
  obtain ⟨k, rfl⟩ : ∃ m, k = m + 9 := ⟨k - 9, by omega⟩
  unfold wageofficeref23_Eight.f
  have e : (⟨#[]⟩ : ByteArray) = strOfNums [] := rfl
  rw [e]
  have s0 := eight_step (k + 8) 0 d h0 h1 [] (by decide) (by decide)
  have s1 := eight_step (k + 7) 1 (d / 256) (by omega) (by omega) [d % 256] (by decide) (by simp)
  have s2 := eight_step (k + 6) 2 (d / 256 / 256) (by omega) (by omega) [d / 256 % 256, d % 256] (by decide) (by simp)
  have s3 := eight_step (k + 5) 3 (d / 256 / 256 / 256) (by omega) (by omega) [d / 256 / 256 % 256, d / 256 % 256, d % 256] (by decide) (by simp)
  have s4 := eight_step (k + 4) 4 (d / 256 / 256 / 256 / 256) (by omega) (by omega) [d / 256 / 256 / 256 % 256, d / 256 / 256 % 256, d / 256 % 256, d % 256] (by decide) (by simp)
  have s5 := eight_step (k + 3) 5 (d / 256 / 256 / 256 / 256 / 256) (by omega) (by omega) [d / 256 / 256 / 256 / 256 % 256, d / 256 / 256 / 256 % 256, d / 256 / 256 % 256, d / 256 % 256, d % 256] (by decide) (by simp)
  have s6 := eight_step (k + 2) 6 (d / 256 / 256 / 256 / 256 / 256 / 256) (by omega) (by omega) [d / 256 / 256 / 256 / 256 / 256 % 256, d / 256 / 256 / 256 / 256 % 256, d / 256 / 256 / 256 % 256, d / 256 / 256 % 256, d / 256 % 256, d % 256] (by decide) (by simp)
  have s7 := eight_step (k + 1) 7 (d / 256 / 256 / 256 / 256 / 256 / 256 / 256) (by omega) (by omega) [d / 256 / 256 / 256 / 256 / 256 / 256 % 256, d / 256 / 256 / 256 / 256 / 256 % 256, d / 256 / 256 / 256 / 256 % 256, d / 256 / 256 / 256 % 256, d / 256 / 256 % 256, d / 256 % 256, d % 256] (by decide) (by simp)
  refine s0.trans (s1.trans (s2.trans (s3.trans (s4.trans (s5.trans (s6.trans (s7.trans ?_)))))))
  rw [wageofficeref23_Eight.l0, if_neg (by decide)]
  have e : [d / 256 / 256 / 256 / 256 / 256 / 256 / 256 % 256, d / 256 / 256 / 256 / 256 / 256 / 256 % 256, d / 256 / 256 / 256 / 256 / 256 % 256, d / 256 / 256 / 256 / 256 % 256, d / 256 / 256 / 256 % 256, d / 256 / 256 % 256, d / 256 % 256, d % 256] = by8 d := by
    unfold by8
    have q1 : d / 256 / 256 = d / 65536 := by omega
    have q2 : d / 65536 / 256 = d / 16777216 := by omega
    have q3 : d / 16777216 / 256 = d / 4294967296 := by omega
    have q4 : d / 4294967296 / 256 = d / 1099511627776 := by omega
    have q5 : d / 1099511627776 / 256 = d / 281474976710656 := by omega
    have q6 : d / 281474976710656 / 256 = d / 72057594037927936 := by omega
    have q7 : d / 72057594037927936 % 256 = d / 72057594037927936 := by omega
    rw [q1, q2, q3, q4, q5, q6, q7]
  rw [e]
theorem Pair_eq (a b : Int) (a0 : 0 ≤ a) (a1 : a ≤ 18446744073709551615) (b0 : 0 ≤ b) (b1 : b ≤ 18446744073709551615) (k : Nat) (hk : 18 ≤ k) :
    wageofficeref23_Pair.f k a b = some (Dig.sum (pairS a b)) := by
  unfold wageofficeref23_Pair.f
  have ea : (strOfNums (by8 a)).size = 8 := strOfNums_size _
  have eb : (strOfNums (by8 b)).size = 8 := strOfNums_size _
  rw [Eight_eq a a0 a1 k (by omega), Option.bind_some, if_pos (by omega), Eight_eq b b0 b1 k (by omega), Option.bind_some, if_pos (by omega)]
  have hp : ((⟨#[1]⟩ : ByteArray) ++ strOfNums (by8 a)) ++ strOfNums (by8 b) = pairS a b := rfl
  rw [hp, Sum_eq _ (by rw [pairS_size]; decide) k (by rw [pairS_size]; omega), Option.bind_some]
theorem digits_at : ∀ m, m < 16 → (⟨#[48, 49, 50, 51, 52, 53, 54, 55, 56, 57, 97, 98, 99, 100, 101, 102]⟩ : ByteArray).extract m (m + 1) = strOfNums [hexL.getD m 0] := by
  intro m hm
  match m, hm with
  | 0, _ => rfl
  | 1, _ => rfl
  | 2, _ => rfl
  | 3, _ => rfl
  | 4, _ => rfl
  | 5, _ => rfl
  | 6, _ => rfl
  | 7, _ => rfl
  | 8, _ => rfl
  | 9, _ => rfl
  | 10, _ => rfl
  | 11, _ => rfl
  | 12, _ => rfl
  | 13, _ => rfl
  | 14, _ => rfl
  | 15, _ => rfl
  | n + 16, h => exact absurd h (by omega)
theorem text_loop (d : Int) (h0 : 0 ≤ d) (h1 : d ≤ 18446744073709551615) : ∀ r k i : Nat, i + r = 16 → r < k →
    wageofficeref23_Text.l0 k (d / 16 ^ i) (strOfNums ((List.range' (16 - i) i).map (hx d))) (i : Int) = some (Dig.text d) := by
  intro r
  induction r with
  | zero =>
    intro k i hi hk
    obtain ⟨k, rfl⟩ := rounds (show 0 < k by omega)
    obtain rfl : i = 16 := by omega
    rw [wageofficeref23_Text.l0, if_neg (by decide)]
    rfl
  | succ r ih =>
    intro k i hi hk
    obtain ⟨k, rfl⟩ := rounds (show 0 < k by omega)
    have p0 : 0 ≤ d / 16 ^ i := Int.ediv_nonneg h0 (Int.le_of_lt (Int.pow_pos (by decide)))
    have p1 : d / 16 ^ i ≤ 18446744073709551615 := Int.le_trans (Int.ediv_le_self _ h0) h1
    have e1 : wrap64 (Int.tmod (d / 16 ^ i) 16) = ((d / 16 ^ i % 16).toNat : Int) := by
      rw [Int.tmod_eq_emod_of_nonneg p0, wrap64_id (by omega) (by omega)]
      omega
    have hm : (d / 16 ^ i % 16).toNat < 16 := by omega
    have hxm : hx d (15 - i) = hexL.getD (d / 16 ^ i % 16).toNat 0 := by
      unfold hx
      rw [pow16 (15 - i) (by omega), show 15 - (15 - i) = i by omega]
    have e2 := div_wrap (d / 16 ^ i) p0 p1 16 (by decide)
    have e3 : d / 16 ^ i / 16 = d / 16 ^ (i + 1) := by
      rw [Int.pow_succ, Int.ediv_ediv_of_nonneg (Int.le_of_lt (Int.pow_pos (by decide)))]
    rw [wageofficeref23_Text.l0, e1, e2, e3]
    generalize (d / 16 ^ i % 16).toNat = m at *
    rw [wrap64_id (x := (m : Int) + 1) (by omega) (by omega), toNat_succ, Int.toNat_natCast, digits_at m hm, ← hxm]
    rw [if_pos (by omega), if_pos (by omega), if_pos (by omega), if_pos (by omega), if_pos (by rw [strOfNums_size, strOfNums_size]; simp; omega), nums_app, wrap64_id (by omega) (by omega)]
    have e4 : [hx d (15 - i)] ++ (List.range' (16 - i) i).map (hx d) = (List.range' (16 - (i + 1)) (i + 1)).map (hx d) := by
      rw [List.range'_succ, show 16 - (i + 1) = 15 - i by omega, show 15 - i + 1 = 16 - i by omega]
      rfl
    rw [e4]
    exact ih k (i + 1) (by omega) (by omega)
theorem Text_eq (d : Int) (h0 : 0 ≤ d) (h1 : d ≤ 18446744073709551615) (k : Nat) (hk : 17 ≤ k) : wageofficeref23_Text.f k d = some (Dig.text d) := by
  have := text_loop d h0 h1 16 k 0 rfl (by omega)
  rw [Int.pow_zero, Int.ediv_one] at this
  exact this
/-- What the reference's Parse makes of a byte. -/
theorem fnd_cases : ∀ n : Nat, n < 256 → fnd (n : Int) 16 = if 48 ≤ n ∧ n ≤ 57 then some (n - 48) else if 97 ≤ n ∧ n ≤ 102 then some (n - 87) else none := by decide +kernel
theorem u64_wrap (x : Int) (h0 : 0 ≤ x) (h1 : x ≤ 18446744073709551615) : IntKind.u64.wrap x = x := by
  simp only [IntKind.wrap, IntKind.bits, IntKind.signed, Bool.false_and, Bool.false_eq_true, if_false]
  exact Int.emod_eq_of_lt h0 (by show _ < (18446744073709551616 : Int); omega)
theorem parse_loop (s : ByteArray) (hs : s.size = 16) : ∀ (r k i : Nat) (d : Int), i + r = 16 → 4 * r < k → 0 ≤ d → d < 16 ^ i →
    wageofficeref23_Parse.l0 k s d (i : Int) = some (match parseL (s.data.toList.drop i) d with | some x => (x, 0) | none => (0, 12)) := by
  intro r
  induction r with
  | zero =>
    intro k i d hi hk h0 h1
    obtain ⟨k, rfl⟩ := rounds (show 0 < k by omega)
    obtain rfl : i = 16 := by omega
    rw [wageofficeref23_Parse.l0, if_neg (by decide), List.drop_of_length_le (by simp; omega)]
    rfl
  | succ r ih =>
    intro k i d hi hk h0 h1
    obtain ⟨k, rfl⟩ : ∃ m, k = m + 4 := ⟨k - 4, by omega⟩
    have hlt : i < s.size := by omega
    have hd : d < 1152921504606846976 := by
      have h2 : (16 : Int) ^ i ≤ 16 ^ 15 := by exact_mod_cast Nat.pow_le_pow_right (n := 16) (by decide) (show i ≤ 15 by omega)
      have h3 : (16 : Int) ^ 15 = 1152921504606846976 := by decide
      omega
    have hn : s[i].toNat < 256 := s[i].toNat_lt
    rw [drop_byte s i hlt, parseL, fnd_cases _ hn]
    rw [wageofficeref23_Parse.l0, if_pos (by omega), if_pos (by omega), if_pos (by omega), bt_byte s i hlt]
    have ih' : ∀ m : Nat, m < 16 → wageofficeref23_Parse.l0 k s (d * 16 + m) ((i : Int) + 1) = some (match parseL (s.data.toList.drop (i + 1)) (d * 16 + m) with | some x => (x, 0) | none => (0, 12)) := fun m hm =>
      ih k (i + 1) (d * 16 + m) (by omega) (by omega) (by omega) (by rw [Int.pow_succ]; omega)
    generalize s[i].toNat = n at *
    have wi : wrap64 ((i : Int) + 1) = (i : Int) + 1 := wrap64_id (by omega) (by omega)
    by_cases c1 : 48 ≤ n ∧ n ≤ 57
    · rw [if_pos c1, if_pos (by omega)]
      rw [wageofficeref23_Parse.j1, if_pos (by rw [decide_eq_true_iff]; omega), wageofficeref23_Parse.j2, if_neg (by omega), wageofficeref23_Parse.j3, if_neg (by decide)]
      have e : wrap64 (wrap64 ((n : Nat) : Int) - 48) = ((n - 48 : Nat) : Int) := by
        rw [wrap64_id (x := (n : Int)) (by omega) (by omega), wrap64_id (by omega) (by omega)]; omega
      rw [e, if_neg (by omega), u64_wrap (d * 16) (by omega) (by omega), u64_wrap ((n - 48 : Nat) : Int) (by omega) (by omega), u64_wrap _ (by omega) (by omega), wi]
      exact ih' (n - 48) (by omega)
    · rw [if_neg c1]
      have e0 : (if ((n : Nat) : Int) ≥ 48 then wageofficeref23_Parse.j1 (k + 3) s d (i : Int) (n : Int) 16 (decide ((n : Int) ≤ 57)) else wageofficeref23_Parse.j1 (k + 3) s d (i : Int) (n : Int) 16 false) = wageofficeref23_Parse.j2 (k + 2) s d (i : Int) (n : Int) 16 := by
        split
        · rw [wageofficeref23_Parse.j1, if_neg (by rw [decide_eq_true_iff]; omega)]
        · rw [wageofficeref23_Parse.j1, if_neg (by decide)]
      rw [e0]
      by_cases c2 : 97 ≤ n ∧ n ≤ 102
      · rw [if_pos c2, wageofficeref23_Parse.j2, if_pos (by omega), wageofficeref23_Parse.j3, if_pos (by rw [decide_eq_true_iff]; omega)]
        have e : wrap64 (wrap64 (wrap64 ((n : Nat) : Int) - 97) + 10) = ((n - 87 : Nat) : Int) := by
          rw [wrap64_id (x := (n : Int)) (by omega) (by omega), wrap64_id (x := (n : Int) - 97) (by omega) (by omega), wrap64_id (by omega) (by omega)]; omega
        rw [e, if_neg (by omega), u64_wrap (d * 16) (by omega) (by omega), u64_wrap ((n - 87 : Nat) : Int) (by omega) (by omega), u64_wrap _ (by omega) (by omega), wi]
        exact ih' (n - 87) (by omega)
      · rw [if_neg c2, wageofficeref23_Parse.j2]
        split
        · rw [wageofficeref23_Parse.j3, if_neg (by rw [decide_eq_true_iff]; omega), if_pos rfl]
        · rw [wageofficeref23_Parse.j3, if_neg (by decide), if_pos rfl]
theorem Parse_eq (s : ByteArray) (k : Nat) (hk : 65 ≤ k) : wageofficeref23_Parse.f k s = some (Dig.parse s) := by
  unfold wageofficeref23_Parse.f Dig.parse
  by_cases h : s.size = 16
  · rw [if_pos (by omega), if_pos h]
    exact parse_loop s h 16 k 0 0 rfl (by omega) (by decide) (by decide)
  · rw [if_neg (by omega), if_neg h]
theorem holds (a0 : ByteArray) (a1 a2 : Int) (a3 : ByteArray) (w0 : a0.size ≤ 140737488351232) (w1 : (Lit.int .u64 a1).wf = true) (w2 : (Lit.int .u64 a2).wf = true) (w3 : a3.size ≤ 140737488351232) :
    ∃ k, wageofficelaw23_DigestMatchesReference.f k a0 a1 a2 a3 = some true := by
  refine ⟨2001, ?_⟩
  have b1 := bounds_u64 w1
  have b2 := bounds_u64 w2
  unfold wageofficelaw23_DigestMatchesReference.f
  rw [head_eq 2001 (by decide), Option.bind_some]
  have m1 := mn_range (a0.size : Int) 2000 (by omega) (by omega)
  have m2 := mn_range (a3.size : Int) 40 (by omega) (by omega)
  generalize mn (a0.size : Int) 2000 = n at *
  generalize mn (a3.size : Int) 40 = m at *
  rw [if_pos (by omega), if_pos (by omega), if_pos (by omega), if_pos (by omega)]
  have s0 : (a0.extract 0 n.toNat).size ≤ 2000 := by rw [ext_size]; omega
  clear m1 m2 w0 w3 w1 w2
  generalize a0.extract 0 n.toNat = x at *
  generalize a3.extract 0 m.toNat = z at *
  rw [show digest_Parse.f z = some (Dig.parse z) from rfl, Option.bind_some, Parse_eq z 2001 (by decide), Option.bind_some, if_pos rfl,
    sum_f x (Nat.le_trans s0 (by decide)), Option.bind_some, Sum_eq x (Nat.le_trans s0 (by decide)) 2001 (by omega), Option.bind_some, if_pos rfl]
  rw [show digest_Pair.f a1 a2 = some (Dig.sum (pairS a1 a2)) from by unfold digest_Pair.f; rw [if_pos (by simpa [u64ok] using ⟨b1, b2⟩)], Option.bind_some, Pair_eq a1 a2 b1.1 b1.2 b2.1 b2.2 2001 (by decide), Option.bind_some, if_pos rfl,
    text_f a1 b1, Option.bind_some, Text_eq a1 b1.1 b1.2 2001 (by decide), Option.bind_some, if_pos rfl, if_pos rfl, beq_self_eq_true]
end Go.Proofs.YtjjfbcpfmdbblaaDoor.PureDigestMatchesReference
