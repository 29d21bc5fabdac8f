/- The law DigestPairByte, said of the printed functions: one changed byte of a digest turns its pairs, and a pair is the digest of the bytes. -/
import Derived.Test.YtjjfbcpfmdbblaaDoorPureDigestMatchesReference
namespace Go.Proofs.YtjjfbcpfmdbblaaDoor.PureDigestPairByte
open Go.RowKit Go.Proofs.YtjjfbcpfmdbblaaDoor Go.Proofs.YtjjfbcpfmdbblaaDoor.PAll Go.Proofs.YtjjfbcpfmdbblaaDoorW.PrintWords Go.Proofs.YtjjfbcpfmdbblaaDoorW.PrintMore Go.Proofs.YtjjfbcpfmdbblaaDoor.Stub
open Go.Proofs.YtjjfbcpfmdbblaaDoor.Dig Go.Proofs.YtjjfbcpfmdbblaaDoor.PureRef23 Go.Proofs.YtjjfbcpfmdbblaaDoor.PureDigestTexts Go.Proofs.YtjjfbcpfmdbblaaDoor.PureDigestMatchesReference Go.Proofs.YtjjfbcpfmdbblaaDoor.DigA

theorem u_or (x y : BitVec 64) : bits .or .u64 (u x) (u y) = u (x ||| y) := by
  have := (x ||| y).isLt
  simp only [bits, u, IntKind.bits, BitVec.ofInt_natCast, BitVec.ofNat_toNat, BitVec.setWidth_eq, IntKind.wrap, IntKind.signed, Bool.false_and, Bool.false_eq_true, if_false]
  exact Int.emod_eq_of_lt (Int.natCast_nonneg _) (by exact_mod_cast this)
theorem u_andNot (x y : BitVec 64) : bits .andNot .u64 (u x) (u y) = u (x &&& ~~~y) := by
  have := (x &&& ~~~y).isLt
  simp only [bits, u, IntKind.bits, BitVec.ofInt_natCast, BitVec.ofNat_toNat, BitVec.setWidth_eq, IntKind.wrap, IntKind.signed, Bool.false_and, Bool.false_eq_true, if_false]
  exact Int.emod_eq_of_lt (Int.natCast_nonneg _) (by exact_mod_cast this)
theorem u_shl (x : BitVec 64) (s : Nat) (hs : s ≤ 64) : shl .u64 (u x) (s : Int) = u (x <<< s) := by
  have e : min ((s : Int)).toNat (IntKind.bits .u64) = s := by show min _ 64 = s; omega
  unfold shl
  rw [e]
  simp only [IntKind.wrap, IntKind.bits, IntKind.signed, Bool.false_and, Bool.false_eq_true, if_false, u, BitVec.toNat_shiftLeft, Nat.shiftLeft_eq, Int.natCast_emod, Int.natCast_mul, Int.natCast_pow, Int.cast_ofNat_Int]
/-- The eight bytes of a number below 2^64. -/
def bN (n : Nat) : List Nat := (List.range 8).map fun j => n / 2 ^ (56 - 8 * j) % 256
theorem by8_bN (x : BitVec 64) : by8 (u x) = (bN x.toNat).map (fun n : Nat => (n : Int)) := by
  have := x.isLt
  unfold u
  generalize x.toNat = n at *
  have e : bN n = [n / 72057594037927936 % 256, n / 281474976710656 % 256, n / 1099511627776 % 256, n / 4294967296 % 256, n / 16777216 % 256, n / 65536 % 256, n / 256 % 256, n / 1 % 256] := rfl
  rw [e]
  unfold by8
  simp only [List.map_cons, List.map_nil, List.cons.injEq, and_true]
  refine ⟨?_, ?_, ?_, ?_, ?_, ?_, ?_, ?_⟩ <;> omega
theorem m_bit (s i : Nat) (hi : i < 64) : (255#64 <<< s).getLsbD i = decide (s ≤ i ∧ i < s + 8) := by
  rw [BitVec.getLsbD_shiftLeft]
  by_cases h : i < s
  · simp [h, show ¬ s ≤ i by omega]
  · have e : (255#64).getLsbD (i - s) = decide (i - s < 8) := by
      show (255 % 2 ^ 64).testBit (i - s) = _
      exact Nat.testBit_two_pow_sub_one 8 (i - s)
    rw [e]
    by_cases h2 : i < s + 8
    · simp [hi, h, h2, show i - s < 8 by omega, show s ≤ i by omega]
    · simp [hi, h, h2, show ¬ i - s < 8 by omega]
theorem c_bit (c : BitVec 64) (hc : c.toNat < 256) (s i : Nat) (hi : i < 64) : (c <<< s).getLsbD i = (decide (s ≤ i ∧ i < s + 8) && c.getLsbD (i - s)) := by
  rw [BitVec.getLsbD_shiftLeft]
  by_cases h : i < s
  · simp [h, show ¬ s ≤ i by omega]
  · by_cases h2 : i < s + 8
    · simp [hi, h, h2, show s ≤ i by omega]
    · have : c.getLsbD (i - s) = false := by
        show c.toNat.testBit (i - s) = false
        exact Nat.testBit_lt_two_pow (Nat.lt_of_lt_of_le hc (by show 2 ^ 8 ≤ 2 ^ (i - s); exact Nat.pow_le_pow_right (by decide) (by omega)))
      simp [this]
theorem put_byte (a c : BitVec 64) (hc : c.toNat < 256) (t : Nat) (ht : t < 8) : bN ((a &&& ~~~(255#64 <<< (8 * t))) ||| (c <<< (8 * t))).toNat = (bN a.toNat).set (7 - t) c.toNat := by
  generalize hX : (a &&& ~~~(255#64 <<< (8 * t))) ||| (c <<< (8 * t)) = X
  have hb : ∀ i, i < 64 → X.toNat.testBit i = if 8 * t ≤ i ∧ i < 8 * t + 8 then c.toNat.testBit (i - 8 * t) else a.toNat.testBit i := by
    intro i hi
    show X.getLsbD i = _
    rw [← hX, BitVec.getLsbD_or, BitVec.getLsbD_and, BitVec.getLsbD_not, m_bit _ _ hi, c_bit c hc _ _ hi]
    by_cases h : 8 * t ≤ i ∧ i < 8 * t + 8
    · rw [if_pos h]; simp [h, hi]; rfl
    · rw [if_neg h]; simp [h, hi]; rfl
  unfold bN
  apply List.ext_getElem?
  intro j
  rw [List.getElem?_set]
  by_cases hj : j < 8
  · simp only [List.getElem?_map, List.getElem?_range hj, Option.map_some, List.length_map, List.length_range]
    by_cases e : 7 - t = j
    · rw [if_pos e, if_pos (by omega)]
      congr 1
      apply Nat.eq_of_testBit_eq
      intro i
      rw [show 256 = 2 ^ 8 from rfl, Nat.testBit_mod_two_pow, Nat.testBit_div_two_pow]
      by_cases hi : i < 8
      · rw [hb _ (by omega), if_pos (by omega)]
        simp [hi]
        congr 1
        omega
      · have : c.toNat.testBit i = false := Nat.testBit_lt_two_pow (Nat.lt_of_lt_of_le hc (by show 2 ^ 8 ≤ 2 ^ i; exact Nat.pow_le_pow_right (by decide) (by omega)))
        simp [hi, this]
    · rw [if_neg e]
      congr 1
      apply Nat.eq_of_testBit_eq
      intro i
      rw [show 256 = 2 ^ 8 from rfl, Nat.testBit_mod_two_pow, Nat.testBit_div_two_pow, Nat.testBit_mod_two_pow, Nat.testBit_div_two_pow]
      by_cases hi : i < 8
      · rw [hb _ (by omega), if_neg (by omega)]
      · simp [hi]
  · simp [hj]
    omega
theorem bN_length (n : Nat) : (bN n).length = 8 := by simp [bN]
theorem bN_inj (a b : BitVec 64) (h : bN a.toNat = bN b.toNat) : a = b := by
  apply BitVec.eq_of_toNat_eq
  have ha := a.isLt
  have hb := b.isLt
  generalize a.toNat = m at *
  generalize b.toNat = n at *
  have em : bN m = [m / 72057594037927936 % 256, m / 281474976710656 % 256, m / 1099511627776 % 256, m / 4294967296 % 256, m / 16777216 % 256, m / 65536 % 256, m / 256 % 256, m / 1 % 256] := rfl
  have en : bN n = [n / 72057594037927936 % 256, n / 281474976710656 % 256, n / 1099511627776 % 256, n / 4294967296 % 256, n / 16777216 % 256, n / 65536 % 256, n / 256 % 256, n / 1 % 256] := rfl
  rw [em, en] at h
  simp only [List.cons.injEq, and_true] at h
  obtain ⟨h0, h1, h2, h3, h4, h5, h6, h7⟩ := h
  omega
def byt (l : List Nat) : List UInt8 := l.map UInt8.ofNat
theorem bytes_list (x : BitVec 64) : (strOfNums (by8 (u x))).data.toList = byt (bN x.toNat) := by
  rw [strOfNums_data, by8_bN, List.map_map]
  rfl
theorem pair_list (x y : BitVec 64) : (pairS (u x) (u y)).data.toList = 1 :: (byt (bN x.toNat) ++ byt (bN y.toNat)) := by
  unfold pairS
  rw [app_toList, app_toList, bytes_list, bytes_list]
  rfl
/-- A list, and the same list with another element at one place. -/
theorem set_split (l : List Nat) (i c m : Nat) (hm : l[i]? = some m) : l = l.take i ++ m :: l.drop (i + 1) ∧ l.set i c = l.take i ++ c :: l.drop (i + 1) := by
  obtain ⟨hi, he⟩ := List.getElem?_eq_some_iff.1 hm
  refine ⟨?_, List.set_eq_take_append_cons_drop ▸ by rw [if_pos hi]⟩
  rw [← he, ← List.drop_eq_getElem_cons hi, List.take_append_drop]
theorem bN_at (n j : Nat) (hj : j < 8) : ∃ m, (bN n)[j]? = some m ∧ m < 256 := by
  simp only [bN, List.getElem?_map, List.getElem?_range hj, Option.map_some]
  exact ⟨_, rfl, by omega⟩
theorem byt_app (l m : List Nat) : byt (l ++ m) = byt l ++ byt m := by simp [byt]
theorem byt_cons (x : Nat) (l : List Nat) : byt (x :: l) = UInt8.ofNat x :: byt l := rfl
theorem byte_ofNat (m c : Nat) (hm : m < 256) (hc : c < 256) : UInt8.ofNat m = UInt8.ofNat c ↔ m = c := by
  constructor
  · intro h
    have := congrArg UInt8.toNat h
    rw [UInt8.toNat_ofNat', UInt8.toNat_ofNat'] at this
    omega
  · rintro rfl; rfl
theorem one_changed (p q : List UInt8) (a X : BitVec 64) (c j : Nat) (hj : j < 8) (hc : c < 256) (hX : bN X.toNat = (bN a.toNat).set j c) :
    sumL (p ++ (byt (bN a.toNat) ++ q)) = sumL (p ++ (byt (bN X.toNat) ++ q)) ↔ a = X := by
  obtain ⟨m, hm, hm2⟩ := bN_at a.toNat j hj
  obtain ⟨s1, s2⟩ := set_split (bN a.toNat) j c m hm
  have e1 : byt (bN a.toNat) = byt ((bN a.toNat).take j) ++ UInt8.ofNat m :: byt ((bN a.toNat).drop (j + 1)) := by
    rw [← byt_cons, ← byt_app, ← s1]
  have e2 : byt (bN X.toNat) = byt ((bN a.toNat).take j) ++ UInt8.ofNat c :: byt ((bN a.toNat).drop (j + 1)) := by
    rw [← byt_cons, ← byt_app, ← s2, hX]
  have e3 : ∀ y : Nat, p ++ ((byt ((bN a.toNat).take j) ++ UInt8.ofNat y :: byt ((bN a.toNat).drop (j + 1))) ++ q) = (p ++ byt ((bN a.toNat).take j)) ++ UInt8.ofNat y :: (byt ((bN a.toNat).drop (j + 1)) ++ q) := fun y => by simp
  rw [e1, e2, e3, e3, sumL_byte, byte_ofNat _ _ hm2 hc]
  constructor
  · intro h
    apply bN_inj
    rw [hX, s2, ← h, ← s1]
  · intro h
    rw [← h] at hX
    have h2 : (bN a.toNat)[j]? = ((bN a.toNat).set j c)[j]? := by rw [← hX]
    rw [hm, List.getElem?_set_self (by rw [bN_length]; exact hj)] at h2
    exact Option.some.inj h2
theorem pair_f (x y : BitVec 64) : digest_Pair.f (u x) (u y) = some (Dig.sum (pairS (u x) (u y))) := by
  unfold digest_Pair.f
  rw [if_pos (by simpa [u64ok] using ⟨u_range' x, u_range' y⟩)]
theorem shr_step (x : BitVec 64) (i : Nat) (hi : i < 8) : shr .u64 (u x) (wrap64 (8 * (i : Int))) % 256 = ((x.toNat / 2 ^ (8 * i) % 256 : Nat) : Int) := by
  rw [wrap64_id (by omega) (by omega)]
  have e : min (8 * (i : Int)).toNat (IntKind.bits .u64) = 8 * i := by show min _ 64 = 8 * i; omega
  unfold shr u
  rw [e]
  simp only [Int.natCast_emod, Int.natCast_ediv, Int.natCast_pow, Int.cast_ofNat_Int]
/-- The bytes of the numbers i-1, .., 0 of a word. -/
def lo (n i : Nat) : List Int := ((List.range i).reverse.map fun j => ((n / 2 ^ (8 * j) % 256 : Nat) : Int))
theorem lo_succ (n i : Nat) : lo n (i + 1) = ((n / 2 ^ (8 * i) % 256 : Nat) : Int) :: lo n i := by simp [lo, List.range_succ]
theorem lo_full (x : BitVec 64) : lo x.toNat 8 = by8 (u x) := by
  rw [by8_bN]
  rfl
theorem loop1 (a b X : BitVec 64) (up : Bool) : ∀ i k : Nat, i ≤ 8 → i < k → ∀ l : List Int, l.length + i ≤ 100 →
    (∀ k', 1 ≤ k' → wageofficelaw23_DigestPairByte.l1 k' (u a) (u b) up (u X) (strOfNums (l ++ lo b.toNat i)) (-1) = some true) →
    wageofficelaw23_DigestPairByte.l1 k (u a) (u b) up (u X) (strOfNums l) ((i : Int) - 1) = some true := by
  intro i
  induction i with
  | zero =>
    intro k _ hk l _ h
    have := h k (by omega)
    simpa [lo] using this
  | succ i ih =>
    intro k hi hk l hl h
    obtain ⟨k, rfl⟩ := rounds (show 0 < k by omega)
    rw [show ((i + 1 : Nat) : Int) - 1 = (i : Int) by omega, wageofficelaw23_DigestPairByte.l1]
    rw [if_pos (by omega), if_pos (by rw [wrap64_id (by omega) (by omega)]; omega), Option.bind_some, shr_step b i (by omega), nums_app]
    rw [if_pos (by rw [strOfNums_size, strOfNums_size]; simp; omega), wrap64_id (by omega) (by omega)]
    refine ih k (by omega) (by omega) _ (by simp; omega) fun k' hk' => ?_
    have := h k' hk'
    rw [lo_succ] at this
    simpa using this
theorem loop0 (a b X : BitVec 64) (up : Bool) : ∀ i k : Nat, i ≤ 8 → i + 10 < k → ∀ l : List Int, l.length + i ≤ 50 →
    (∀ k', 9 < k' → wageofficelaw23_DigestPairByte.l1 k' (u a) (u b) up (u X) (strOfNums (l ++ lo a.toNat i)) 7 = some true) →
    wageofficelaw23_DigestPairByte.l0 k (u a) (u b) up (u X) (strOfNums l) ((i : Int) - 1) = some true := by
  intro i
  induction i with
  | zero =>
    intro k _ hk l _ h
    obtain ⟨k, rfl⟩ := rounds (show 0 < k by omega)
    rw [wageofficelaw23_DigestPairByte.l0, if_neg (by decide)]
    have := h k (by omega)
    simpa [lo] using this
  | succ i ih =>
    intro k hi hk l hl h
    obtain ⟨k, rfl⟩ := rounds (show 0 < k by omega)
    rw [show ((i + 1 : Nat) : Int) - 1 = (i : Int) by omega, wageofficelaw23_DigestPairByte.l0]
    rw [if_pos (by omega), if_pos (by rw [wrap64_id (by omega) (by omega)]; omega), Option.bind_some, shr_step a i (by omega), nums_app]
    rw [if_pos (by rw [strOfNums_size, strOfNums_size]; simp; omega), wrap64_id (by omega) (by omega)]
    refine ih k (by omega) (by omega) _ (by simp; omega) fun k' hk' => ?_
    have := h k' hk'
    rw [lo_succ] at this
    simpa using this
theorem last (a b X : BitVec 64) (c j : Nat) (hj : j < 8) (hc : c < 256) (hX : bN X.toNat = (bN a.toNat).set j c) (k : Nat) (hk : 1 ≤ k) :
    wageofficelaw23_DigestPairByte.l1 k (u a) (u b) true (u X) (pairS (u a) (u b)) (-1) = some true := by
  obtain ⟨k, rfl⟩ := rounds (show 0 < k by omega)
  rw [wageofficelaw23_DigestPairByte.l1, if_neg (by decide), pair_f, Option.bind_some, pair_f, Option.bind_some, pair_f, Option.bind_some, pair_f, Option.bind_some, if_pos rfl,
    sum_f _ (by rw [pairS_size]; decide), Option.bind_some, if_pos rfl]
  have hax : (u a == u X) = decide (a = X) := by
    rw [Bool.eq_iff_iff, beq_iff_eq, decide_eq_true_iff]
    exact ⟨fun h => u_inj h, fun h => by rw [h]⟩
  have h1 : (Dig.sum (pairS (u a) (u b)) == Dig.sum (pairS (u X) (u b))) = decide (a = X) := by
    rw [Bool.eq_iff_iff, beq_iff_eq, decide_eq_true_iff, sum_eq_iff, pair_list, pair_list]
    exact one_changed [1] (byt (bN b.toNat)) a X c j hj hc hX
  have h2 : (Dig.sum (pairS (u b) (u a)) == Dig.sum (pairS (u b) (u X))) = decide (a = X) := by
    rw [Bool.eq_iff_iff, beq_iff_eq, decide_eq_true_iff, sum_eq_iff, pair_list, pair_list]
    have := one_changed (1 :: byt (bN b.toNat)) [] a X c j hj hc hX
    simpa using this
  rw [hax, h1, h2]
  simp
theorem holds (a0 a1 a2 a3 : Int) (w0 : (Lit.int .u64 a0).wf = true) (w1 : (Lit.int .u64 a1).wf = true) (w2 : (Lit.int .i64 a2).wf = true) (w3 : (Lit.int .u8 a3).wf = true) :
    ∃ k, wageofficelaw23_DigestPairByte.f k a0 a1 a2 a3 = some true := by
  refine ⟨20, ?_⟩
  have b0 := bounds_u64 w0
  have b1 := bounds_u64 w1
  have b2 := bounds_i64 w2
  have b3 := bounds_u8 w3
  obtain ⟨a, rfl⟩ := u_of b0.1 b0.2
  obtain ⟨b, rfl⟩ := u_of b1.1 b1.2
  obtain ⟨c, rfl⟩ := u_of b3.1 (by omega)
  have hc : c.toNat < 256 := by have := b3.2; unfold u at this; omega
  unfold wageofficelaw23_DigestPairByte.f
  obtain ⟨t, ht, t0, t1⟩ := pick_eq a2 8 b2.1 b2.2 (by decide)
  rw [head_eq 20 (by decide), Option.bind_some, ht, Option.bind_some]
  clear ht b0 b1 b2 b3 w0 w1 w2 w3
  obtain ⟨m, rfl⟩ : ∃ m : Nat, t = (m : Int) := ⟨t.toNat, by omega⟩
  have hw : wrap64 (8 * (m : Int)) = ((8 * m : Nat) : Int) := by rw [wrap64_id (by omega) (by omega)]; omega
  rw [hw, if_pos (by omega)]
  have e255 : (255 : Int) = u 255#64 := rfl
  rw [e255, u_shl _ _ (by omega), u_andNot, u_wrap, u_shl _ _ (by omega), u_or]
  have hX := put_byte a c hc m (by omega)
  generalize (a &&& ~~~(255#64 <<< (8 * m))) ||| (c <<< (8 * m)) = X at *
  refine loop0 a b X true 8 20 (by decide) (by decide) [1] (by decide) fun k' hk' => ?_
  refine loop1 a b X true 8 k' (by decide) (by omega) _ (by simp [lo]) fun k'' hk'' => ?_
  rw [lo_full, lo_full]
  have hp : strOfNums ([1] ++ by8 (u a) ++ by8 (u b)) = pairS (u a) (u b) := by
    unfold pairS
    rw [← nums_app, ← nums_app]
    rfl
  rw [hp]
  exact last a b X c.toNat (7 - m) (by omega) hc hX k'' hk''
end Go.Proofs.YtjjfbcpfmdbblaaDoor.PureDigestPairByte
