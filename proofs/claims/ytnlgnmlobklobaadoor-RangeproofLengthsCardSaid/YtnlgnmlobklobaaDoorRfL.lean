/- What the printed reference functions of layers 23, 26 and 27 compute, said plainly. -/
import Derived.Test.YtnlgnmlobklobaaDoorPAllx6
import Derived.Test.YtnlgnmlobklobaaDoorPAllx12
import Derived.Test.YtnlgnmlobklobaaDoorDigX
set_option linter.unusedVariables false
set_option linter.unusedSimpArgs false
namespace Go.Proofs.YtnlgnmlobklobaaDoor.RfL
open Go.RowKit Go.Proofs.YtnlgnmlobklobaaDoor Go.Proofs.YtnlgnmlobklobaaDoor.PAll Go.Proofs.YtnlgnmlobklobaaDoorW.PrintWords Go.Proofs.YtnlgnmlobklobaaDoorW.PrintMore
open Go.Proofs.YtnlgnmlobklobaaDoor.Dig Go.Proofs.YtnlgnmlobklobaaDoor.DigA Go.Proofs.YtnlgnmlobklobaaDoor.DigB Go.Proofs.YtnlgnmlobklobaaDoor.Stub Go.Proofs.YtnlgnmlobklobaaDoor.Com Go.Proofs.YtnlgnmlobklobaaDoor.Hash

theorem wrap64_id {x : Int} (h0 : -9223372036854775808 ≤ x) (h1 : x ≤ 9223372036854775807) : wrap64 x = x := by unfold wrap64; omega
theorem rounds {k : Nat} (h : 0 < k) : ∃ m, k = m + 1 := ⟨k - 1, by omega⟩
theorem bt_byte (s : ByteArray) (i : Nat) (h : i < s.size) : bt s (i : Int) = ((s[i]).toNat : Int) := by
  unfold bt
  rw [dif_pos (show (i : Int).toNat < s.size by simpa using h)]
  rfl
theorem drop_byte (s : ByteArray) (i : Nat) (h : i < s.size) : s.data.toList.drop i = s[i] :: s.data.toList.drop (i + 1) := by
  rw [List.drop_eq_getElem_cons (by simpa using h)]; rfl
theorem tdiv_shr (x : BitVec 64) (k : Nat) : Int.tdiv (u x) ((2 ^ k : Nat) : Int) = u (x >>> k) := by
  rw [Int.tdiv_eq_ediv_of_nonneg (u_range x).1, u_shr]
theorem tdiv32 (x : BitVec 64) : Int.tdiv (u x) (4294967296 : Int) = u (x >>> 32) := by simpa using tdiv_shr x 32
theorem tdiv31 (x : BitVec 64) : Int.tdiv (u x) (2147483648 : Int) = u (x >>> 31) := by simpa using tdiv_shr x 31
theorem tdiv27 (x : BitVec 64) : Int.tdiv (u x) (134217728 : Int) = u (x >>> 27) := by simpa using tdiv_shr x 27
theorem tdiv33 (x : BitVec 64) : Int.tdiv (u x) (8589934592 : Int) = u (x >>> 33) := by simpa using tdiv_shr x 33

theorem state_loop (s : ByteArray) (hs : s.size ≤ 9223372036854775806) : ∀ (d k i : Nat) (x : BitVec 64), i + d = s.size → d < k →
    wageofficeref23_State.l0 k s (u x) (i : Int) = some (u ((s.data.toList.drop i).foldl (fun x b => stp x (w8 b)) x)) := by
  intro d
  induction d with
  | zero =>
    intro k i x hi hk
    obtain ⟨k, rfl⟩ := rounds (show 0 < k by omega)
    simp only [wageofficeref23_State.l0]
    rw [if_neg (by omega), List.drop_of_length_le (by simp; omega)]
    rfl
  | succ d ih =>
    intro k i x hi hk
    obtain ⟨k, rfl⟩ := rounds (show 0 < k by omega)
    have hlt : i < s.size := by omega
    simp only [wageofficeref23_State.l0]
    rw [if_pos (by omega), if_pos (by omega), bt_byte s i hlt, ← u_w8, u_wrap, u_xor, u_mulK, tdiv32, u_wrap, u_xor, wrap64_id (by omega) (by omega)]
    have := ih k (i + 1) (stp x (w8 s[i])) (by omega) (by omega)
    rw [drop_byte s i hlt]
    simp only [List.foldl_cons]
    exact_mod_cast this
theorem State_eq (s : ByteArray) (hs : s.size ≤ 9223372036854775806) (k : Nat) (hk : s.size < k) : wageofficeref23_State.f k s = some (u (state s.data.toList)) := by
  unfold wageofficeref23_State.f
  have := state_loop s hs s.size k 0 st0 (by omega) hk
  exact this
theorem Finish_eq (x N : BitVec 64) : wageofficeref23_Finish.f (u x) (u N) = some (u (fin x N)) := by
  unfold wageofficeref23_Finish.f
  simp only [u_wrap, u_xor, tdiv31, u_mulA, tdiv27, u_mulB, tdiv33]
  rfl
theorem Sum_eq (s : ByteArray) (hs : s.size ≤ 9223372036854775806) (k : Nat) (hk : s.size < k) : wageofficeref23_Sum.f k s = some (Dig.sum s) := by
  unfold wageofficeref23_Sum.f
  rw [State_eq s hs k hk]
  simp only [Option.bind_some]
  rw [u_nat s.size (by omega), Finish_eq]
  simp only [Option.bind_some]
  simp [Dig.sum, sumL]
theorem app_toList (a b : ByteArray) : (a ++ b).data.toList = a.data.toList ++ b.data.toList := by simp [ByteArray.data_append]
theorem ext_toList (s : ByteArray) (a b : Nat) : (s.extract a b).data.toList = (s.data.toList.drop a).take (b - a) := by simp [ByteArray.data_extract, List.extract]
theorem ext_size (s : ByteArray) (a b : Nat) : (s.extract a b).size = min b s.size - a := by simp [ByteArray.size_extract]
theorem sum_f (s : ByteArray) (h : s.size ≤ 9223372036854775807) : digest_Sum.f s = some (Dig.sum s) := by unfold digest_Sum.f; rw [if_pos h]

/-! ### digits -/
theorem dig_byte {u : Nat} (h : u < 10) : UInt8.ofNat (((wrap64 (48 + (u : Int))) % 256).toNat) = UInt8.ofNat (48 + u) := by
  rw [wrap64_id (by omega) (by omega)]
  congr 1
  omega
theorem nums_app (c : Int) (l : List UInt8) : strOfNums [c] ++ (⟨l.toArray⟩ : ByteArray) = ⟨(UInt8.ofNat c.toNat :: l).toArray⟩ := by
  apply ByteArray.ext
  rw [ByteArray.data_append]
  simp [strOfNums]
theorem size_mk (l : List UInt8) : (⟨l.toArray⟩ : ByteArray).size = l.length := by simp [ByteArray.size]
theorem tmod10 (u : Nat) : Int.tmod (u : Int) 10 = ((u % 10 : Nat) : Int) := by rw [Int.tmod_eq_emod_of_nonneg (by omega)]; rfl
theorem tdiv10 (u : Nat) : Int.tdiv (u : Int) 10 = ((u / 10 : Nat) : Int) := by rw [Int.tdiv_eq_ediv_of_nonneg (by omega)]; rfl
theorem digits_end (k : Nat) (l : List UInt8) (h : l ≠ []) : wageofficeref27_digits.l0 (k + 1) ⟨l.toArray⟩ 0 = some ⟨l.toArray⟩ := by
  have hl : (⟨l.toArray⟩ : ByteArray).toList = l := by rw [ByteArray.toList_eq]
  simp only [wageofficeref27_digits.l0]
  rw [if_neg (by decide), if_neg (by rw [hl]; exact h)]
theorem digits_loop : ∀ (n k u : Nat) (l : List UInt8), 0 < u → u < 10 ^ n → u ≤ 9223372036854775807 → n < k → l.length + n ≤ 1000 →
    wageofficeref27_digits.l0 k ⟨l.toArray⟩ (u : Int) = some ⟨(Lib.decDigits u ++ l).toArray⟩ := by
  intro n
  induction n with
  | zero => intro k u l h0 h1; omega
  | succ n ih =>
    intro k u l h0 h1 hm hk hl
    obtain ⟨k, rfl⟩ := rounds (show 0 < k by omega)
    obtain ⟨k, rfl⟩ := rounds (show 0 < k by omega)
    rw [wageofficeref27_digits.l0, if_pos (by omega), tmod10, tdiv10]
    rw [Option.bind_some]
    rw [if_pos (by rw [strOfNums_size, size_mk]; simp; omega), nums_app, wrap64_id (x := ((u / 10 : Nat) : Int)) (by omega) (by omega), dig_byte (Nat.mod_lt _ (by decide))]
    by_cases h10 : u < 10
    · rw [show u / 10 = 0 from by omega]
      rw [show ((0 : Nat) : Int) = 0 from rfl, digits_end _ _ (by simp), Lib.decDigits, dif_pos h10, Nat.mod_eq_of_lt h10]
      rfl
    · have := ih (k + 1) (u / 10) (UInt8.ofNat (48 + u % 10) :: l) (by omega) (by rw [Nat.pow_succ] at h1; omega) (by omega) (by omega) (by simp; omega)
      rw [this]
      rw [Lib.decDigits.eq_def u, dif_neg h10]
      simp
theorem digits_eq (n : Int) (h0 : 0 ≤ n) (h1 : n ≤ 9223372036854775807) (k : Nat) (hk : 25 ≤ k) : wageofficeref27_digits.f k n = some ⟨(Lib.itoa n).toArray⟩ := by
  obtain ⟨u, rfl⟩ : ∃ u : Nat, n = u := ⟨n.toNat, by omega⟩
  unfold wageofficeref27_digits.f
  rw [Lib.itoa, if_neg (by omega), Int.toNat_natCast]
  by_cases h : u = 0
  · subst h
    obtain ⟨k, rfl⟩ := rounds (show 0 < k by omega)
    obtain ⟨k, rfl⟩ := rounds (show 0 < k by omega)
    rw [wageofficeref27_digits.l0, if_neg (by decide), if_pos (by rw [ByteArray.toList_eq]), tmod10, tdiv10, Option.bind_some]
    rw [if_pos (by rw [strOfNums_size]; decide), nums_app, wrap64_id (x := ((0 / 10 : Nat) : Int)) (by omega) (by omega), dig_byte (Nat.mod_lt _ (by decide))]
    have := digits_end k [48] (by simp)
    rw [Lib.decDigits, dif_pos (by decide)]
    exact this
  · have := digits_loop 20 k u [] (by omega) (by omega) (by omega) (by omega) (by simp)
    rw [List.append_nil] at this
    exact this
/-! ### random numbers, challenges -/
theorem app_mk (l m : List UInt8) : (⟨l.toArray⟩ : ByteArray) ++ (⟨m.toArray⟩ : ByteArray) = ⟨(l ++ m).toArray⟩ := by
  apply ByteArray.ext
  rw [ByteArray.data_append]
  simp
theorem mk_self (s : ByteArray) : s = ⟨s.data.toList.toArray⟩ := by
  apply ByteArray.ext; simp
theorem itoa_len (n : Int) (h0 : 0 ≤ n) (h1 : n ≤ 9223372036854775807) : (Lib.itoa n).length ≤ 21 := by
  have := Lib.itoa_length_le n (by omega) h1
  omega
theorem sp : (⟨#[32]⟩ : ByteArray) = ⟨([32] : List UInt8).toArray⟩ := rfl
theorem mod_eq (s : ByteArray) : wageofficeref27_mod.f (Dig.sum s) = some (Dig.sum s % 1073741789) := by
  have hd : 0 ≤ Dig.sum s ∧ Dig.sum s ≤ 18446744073709551615 := DigA.u_range _
  unfold wageofficeref27_mod.f
  rw [Int.tmod_eq_emod_of_nonneg hd.1, wrap64_id (by omega) (by omega)]
theorem random_eq (seed : ByteArray) (hs : seed.size ≤ 1000000) (i j : Int) (hi : 0 ≤ i ∧ i ≤ 9223372036854775807) (hj : 0 ≤ j ∧ j ≤ 9223372036854775807) (k : Nat) (hk : seed.size + 100 ≤ k) :
    wageofficeref27_random.f k seed i j = some (hsh seed [i, j]) := by
  have l1 := itoa_len i hi.1 hi.2
  have l2 := itoa_len j hj.1 hj.2
  unfold wageofficeref27_random.f
  rw [if_pos (by omega), digits_eq i hi.1 hi.2 k (by omega), Option.bind_some, size_mk (Lib.itoa i), if_pos (by omega), if_pos (by omega), digits_eq j hj.1 hj.2 k (by omega), Option.bind_some, size_mk (Lib.itoa j), if_pos (by omega)]
  have e : (((seed ++ (⟨#[32]⟩ : ByteArray)) ++ ⟨(Lib.itoa i).toArray⟩) ++ (⟨#[32]⟩ : ByteArray)) ++ ⟨(Lib.itoa j).toArray⟩ = ⟨(txt seed [i, j]).toArray⟩ := by
    conv => lhs; rw [mk_self seed]
    rw [sp, app_mk, app_mk, app_mk, app_mk]
    unfold txt
    simp
  have hz : (⟨(txt seed [i, j]).toArray⟩ : ByteArray).size ≤ seed.size + 50 := by
    rw [size_mk]
    unfold txt
    simp
    omega
  rw [e, Sum_eq _ (by omega) k (by omega), Option.bind_some, mod_eq]
  rfl
theorem chal_eq (a b c : Int) (ha : 0 ≤ a ∧ a ≤ 9223372036854775807) (hb : 0 ≤ b ∧ b ≤ 9223372036854775807) (hc : 0 ≤ c ∧ c ≤ 9223372036854775807) (k : Nat) (hk : 200 ≤ k) :
    wageofficeref27_challenge.f k a b c = some (chal a b c) := by
  have l1 := itoa_len a ha.1 ha.2
  have l2 := itoa_len b hb.1 hb.2
  have l3 := itoa_len c hc.1 hc.2
  unfold wageofficeref27_challenge.f
  rw [digits_eq a ha.1 ha.2 k (by omega), Option.bind_some, size_mk (Lib.itoa a), if_pos (by omega), if_pos (by omega), digits_eq b hb.1 hb.2 k (by omega), Option.bind_some, size_mk (Lib.itoa b), if_pos (by omega), if_pos (by omega),
    digits_eq c hc.1 hc.2 k (by omega), Option.bind_some, size_mk (Lib.itoa c), if_pos (by omega)]
  have e : (((((⟨#[99, 32]⟩ : ByteArray) ++ ⟨(Lib.itoa a).toArray⟩) ++ (⟨#[32]⟩ : ByteArray)) ++ ⟨(Lib.itoa b).toArray⟩) ++ (⟨#[32]⟩ : ByteArray)) ++ ⟨(Lib.itoa c).toArray⟩ = ⟨(txt word_c [a, b, c]).toArray⟩ := by
    rw [sp, show (⟨#[99, 32]⟩ : ByteArray) = ⟨([99, 32] : List UInt8).toArray⟩ from rfl, app_mk, app_mk, app_mk, app_mk, app_mk]
    unfold txt word_c
    simp
  have hz : (⟨(txt word_c [a, b, c]).toArray⟩ : ByteArray).size ≤ 80 := by
    rw [size_mk]
    unfold txt word_c
    simp
    omega
  rw [e, Sum_eq _ (by omega) k (by omega), Option.bind_some, mod_eq]
  rfl
/-! ### powers -/
theorem mulI_nat (a b : Nat) : mulI (a : Int) b = ((a * b % 2147483579 : Nat) : Int) := by
  show (a : Int) * b % 2147483579 = _
  rw [Int.natCast_emod, Int.natCast_mul]
  rfl
theorem times_raw (a b : Int) (ha : 0 ≤ a ∧ a < 2147483579) (hb : 0 ≤ b ∧ b < 2147483579) : Int.tmod (wrap64 (a * b)) 2147483579 = mulI a b := by
  have h0 : 0 ≤ a * b := Int.mul_nonneg ha.1 hb.1
  have h1 : a * b ≤ 2147483579 * 2147483579 := Int.mul_le_mul (by omega) (by omega) hb.1 (by decide)
  generalize hp : a * b = p at *
  rw [wrap64_id (by omega) (by omega), Int.tmod_eq_emod_of_nonneg h0]
  unfold mulI
  rw [hp]
theorem bit_of (e i : Nat) (hi : i < 63) (he : e < 2 ^ 63) : Go.bits .and .i64 (shr .i64 (e : Int) (i : Int)) 1 = ((e / 2 ^ i % 2 : Nat) : Int) := by
  have hs : shr .i64 (e : Int) (i : Int) = ((e / 2 ^ i : Nat) : Int) := by
    unfold shr
    rw [Int.toNat_natCast, Nat.min_eq_left (show i ≤ IntKind.i64.bits by show i ≤ 64; omega)]
    norm_cast
  have hlt : e / 2 ^ i < 2 ^ 63 := Nat.lt_of_le_of_lt (Nat.div_le_self _ _) he
  rw [hs]
  have := bits_mask .i64 63 (by decide) (fun n h0 h1 => IntWalk.i64_in _ (by omega)) 1 (by decide) ((e / 2 ^ i : Nat) : Int) (Int.natCast_nonneg _) (by exact_mod_cast hlt)
  rw [show (2 : Int) ^ 1 - 1 = 1 from rfl, show (2 : Int) ^ 1 = 2 from rfl] at this
  rw [this]
  norm_cast
theorem pow_loop (b e : Nat) (hb : b < 2147483579) (he : e < 2 ^ 63) : ∀ (i k : Nat), i ≤ 63 → i < k →
    wageofficeref26_Power.l0 k (b : Int) (e : Int) ((Grp.pw b (e / 2 ^ i) : Nat) : Int) ((i : Int) - 1) = some ((Grp.pw b e : Nat) : Int) := by
  intro i
  induction i with
  | zero =>
    intro k _ hk
    obtain ⟨k, rfl⟩ := rounds (show 0 < k by omega)
    rw [wageofficeref26_Power.l0, if_neg (by omega)]
    simp
  | succ i ih =>
    intro k hi hk
    obtain ⟨k, rfl⟩ := rounds (show 0 < k by omega)
    have hX := Grp.pw_lt b (e / 2 ^ (i + 1))
    have hXi : 0 ≤ ((Grp.pw b (e / 2 ^ (i + 1)) : Nat) : Int) ∧ ((Grp.pw b (e / 2 ^ (i + 1)) : Nat) : Int) < 2147483579 := ⟨Int.natCast_nonneg _, by omega⟩
    have hbi : 0 ≤ (b : Int) ∧ (b : Int) < 2147483579 := ⟨Int.natCast_nonneg _, by omega⟩
    rw [wageofficeref26_Power.l0, if_pos (by omega), if_pos (by omega), show ((i + 1 : Nat) : Int) - 1 = (i : Int) by omega, bit_of e i (by omega) he]
    rw [times_raw ((Grp.pw b (e / 2 ^ (i + 1)) : Nat) : Int) ((Grp.pw b (e / 2 ^ (i + 1)) : Nat) : Int) hXi hXi, mulI_nat, wrap64_id (x := (i : Int) - 1) (by omega) (by omega)]
    have hsq : Grp.pw b (e / 2 ^ (i + 1)) * Grp.pw b (e / 2 ^ (i + 1)) % 2147483579 = Grp.pw b (2 * (e / 2 ^ (i + 1))) := by
      rw [show 2 * (e / 2 ^ (i + 1)) = e / 2 ^ (i + 1) + e / 2 ^ (i + 1) by omega, Grp.pw_add]
    have hh : e / 2 ^ (i + 1) = e / 2 ^ i / 2 := by rw [Nat.pow_succ, Nat.div_div_eq_div_mul]
    rw [hsq]
    by_cases h1 : e / 2 ^ i % 2 = 1
    · rw [if_pos (by rw [h1]; rfl)]
      have hY := Grp.pw_lt b (2 * (e / 2 ^ (i + 1)))
      rw [times_raw ((Grp.pw b (2 * (e / 2 ^ (i + 1))) : Nat) : Int) b ⟨Int.natCast_nonneg _, by omega⟩ hbi, mulI_nat, ← Grp.pw_succ, show 2 * (e / 2 ^ (i + 1)) + 1 = e / 2 ^ i by omega]
      exact ih k (by omega) (by omega)
    · rw [if_neg (by omega), show 2 * (e / 2 ^ (i + 1)) = e / 2 ^ i by omega]
      exact ih k (by omega) (by omega)
theorem Power_eq (b e : Int) (he : e ≤ 9223372036854775807) (k : Nat) (hk : 70 ≤ k) : wageofficeref26_Power.f k b e = some (powF b e) := by
  unfold wageofficeref26_Power.f powF
  obtain ⟨k, rfl⟩ := rounds (show 0 < k by omega)
  by_cases h1 : b < 0
  · rw [if_pos h1, if_pos (.inl h1)]; simp [wageofficeref26_Power.j0]
  · by_cases h2 : b ≥ 2147483579
    · rw [if_neg h1, if_pos h2, if_pos (.inr (.inl h2))]; simp [wageofficeref26_Power.j0]
    · by_cases h3 : e < 0
      · rw [if_neg h1, if_neg h2, if_pos (.inr (.inr h3)), decide_eq_true h3]; simp [wageofficeref26_Power.j0]
      · rw [if_neg h1, if_neg h2, if_neg (by omega), decide_eq_false h3]
        rw [wageofficeref26_Power.j0, if_neg (by decide)]
        obtain ⟨b, rfl⟩ : ∃ x : Nat, b = x := ⟨b.toNat, by omega⟩
        obtain ⟨e, rfl⟩ : ∃ x : Nat, e = x := ⟨e.toNat, by omega⟩
        have h63 : e < 2 ^ 63 := by omega
        have := pow_loop b e (by omega) h63 63 k (by omega) (by omega)
        rw [Nat.div_eq_of_lt h63, Grp.pw_zero] at this
        exact this
theorem powF_in {b e : Int} (h : 0 ≤ b ∧ b < 2147483579 ∧ 0 ≤ e) : powF b e = pwI b e := by unfold powF; rw [if_neg (by omega)]
theorem times_eq (a b : Int) (ha : 0 ≤ a ∧ a < 2147483579) (hb : 0 ≤ b ∧ b < 2147483579) : wageofficeref27_times.f a b = some (mulI a b) := by
  unfold wageofficeref27_times.f; rw [times_raw a b ha hb]
theorem inverse_eq (a : Int) (ha : 0 ≤ a ∧ a < 2147483579) (k : Nat) (hk : 70 ≤ k) : wageofficeref27_inverse.f k a = some (invI a) := by
  unfold wageofficeref27_inverse.f
  rw [Power_eq a _ (by decide) k hk, Option.bind_some, powF_in ⟨ha.1, ha.2, by decide⟩]
  rfl
theorem shifted0 (c : Int) (k : Nat) : wageofficeref27_shifted.f k c 0 = some c := by unfold wageofficeref27_shifted.f; rw [if_pos rfl]
theorem invI_range (a : Int) : 0 ≤ invI a ∧ invI a < 2147483579 := pwI_range _ _
theorem shifted1 (c : Int) (hc : 0 ≤ c ∧ c < 2147483579) (k : Nat) (hk : 70 ≤ k) : wageofficeref27_shifted.f k c 1 = some (mulI c (invI 4)) := by
  unfold wageofficeref27_shifted.f
  rw [if_neg (by decide), inverse_eq 4 (by decide) k hk, Option.bind_some, times_eq c _ hc (invI_range 4)]
  rfl
theorem Element_eq (n : Int) (k : Nat) (hk : 70 ≤ k) : wageofficeref26_Element.f k n = some (elB n) := by
  unfold wageofficeref26_Element.f elB
  by_cases h1 : n ≥ 1
  · by_cases h2 : n < 2147483579
    · rw [if_pos h1, if_pos h2, Power_eq n _ (by decide) k hk, Option.bind_some, powF_in ⟨by omega, h2, by decide⟩]
      congr 1
      rw [Bool.eq_iff_iff]
      simp
      omega
    · rw [if_pos h1, if_neg h2, decide_eq_false (by omega)]
  · rw [if_neg h1, decide_eq_false (by omega)]
theorem number_eq (n : Int) : wageofficeref27_number.f n = some (nuB n) := by
  unfold wageofficeref27_number.f nuB
  by_cases h1 : n ≥ 0
  · rw [if_pos h1]
    congr 1
    rw [decide_eq_decide]; omega
  · rw [if_neg h1, decide_eq_false (by omega)]
theorem Commit_eq (v r : Int) (k : Nat) (hk : 80 ≤ k) : wageofficeref26_Commit.f k v r = some (comI v r) := by
  unfold wageofficeref26_Commit.f comI
  obtain ⟨k, rfl⟩ := rounds (show 0 < k by omega)
  have bad : wageofficeref26_Commit.j0 (k + 1) v r true = some (0, 1) := by rw [wageofficeref26_Commit.j0, if_pos rfl]
  by_cases h1 : v < 0
  · rw [if_pos h1, bad, if_neg (fun h => by have := nuB_range h.1; omega)]
  · by_cases h2 : v ≥ 1073741789
    · rw [if_neg h1, if_pos h2, bad, if_neg (fun h => by have := nuB_range h.1; omega)]
    · by_cases h3 : r < 0
      · rw [if_neg h1, if_neg h2, if_pos h3, bad, if_neg (fun h => by have := nuB_range h.2; omega)]
      · by_cases h4 : r ≥ 1073741789
        · rw [if_neg h1, if_neg h2, if_neg h3, decide_eq_true h4, bad, if_neg (fun h => by have := nuB_range h.2; omega)]
        · rw [if_neg h1, if_neg h2, if_neg h3, decide_eq_false h4, if_pos ⟨decide_eq_true (by omega), decide_eq_true (by omega)⟩]
          rw [wageofficeref26_Commit.j0, if_neg (by decide), Power_eq 4 v (by omega) k (by omega), Option.bind_some, Power_eq 9 r (by omega) k (by omega), Option.bind_some, powF_in ⟨by decide, by decide, by omega⟩, powF_in ⟨by decide, by decide, by omega⟩]
          rw [times_raw _ _ (pwI_range _ _) (pwI_range _ _)]
          unfold pwI
          rw [mulI_nat]
          rfl
theorem powerQ_loop : ∀ (n k x e acc : Nat), e < 2 ^ n → n < k → x < 1073741789 → acc < 1073741789 → e ≤ 9223372036854775807 →
    wageofficeref27_powerQ.l0 k (x : Int) (e : Int) (acc : Int) = some ((acc * x ^ e % 1073741789 : Nat) : Int) := by
  intro n
  induction n with
  | zero =>
    intro k x e acc he hk hx ha hm
    obtain ⟨k, rfl⟩ := rounds (show 0 < k by omega)
    obtain rfl : e = 0 := by simpa using he
    rw [wageofficeref27_powerQ.l0, if_neg (by decide), Nat.pow_zero, Nat.mul_one, Nat.mod_eq_of_lt ha]
  | succ n ih =>
    intro k x e acc he hk hx ha hm
    obtain ⟨k, rfl⟩ := rounds (show 0 < k by omega)
    by_cases h0 : e = 0
    · subst h0
      rw [wageofficeref27_powerQ.l0, if_neg (by decide), Nat.pow_zero, Nat.mul_one, Nat.mod_eq_of_lt ha]
    · have t2 : Int.tdiv (e : Int) 2 = ((e / 2 : Nat) : Int) := by rw [Int.tdiv_eq_ediv_of_nonneg (by omega)]; rfl
      have m2 : Int.tmod (e : Int) 2 = ((e % 2 : Nat) : Int) := by rw [Int.tmod_eq_emod_of_nonneg (by omega)]; rfl
      have raw : ∀ a b : Nat, a < 1073741789 → b < 1073741789 → Int.tmod (wrap64 ((a : Int) * b)) 1073741789 = ((a * b % 1073741789 : Nat) : Int) := fun a b h1 h2 => by
        have h3 : a * b ≤ 1073741789 * 1073741789 := Nat.mul_le_mul (by omega) (by omega)
        rw [show (a : Int) * b = ((a * b : Nat) : Int) by norm_cast]
        generalize a * b = p at *
        rw [wrap64_id (by omega) (by omega), Int.tmod_eq_emod_of_nonneg (by omega)]
        rfl
      have hr := Nat.mod_lt (x * x) (show 0 < 1073741789 by decide)
      have hp : e < 2 * 2 ^ n := by rw [Nat.pow_succ] at he; omega
      have hst := Grp.sq_pow 1073741789
      rw [wageofficeref27_powerQ.l0, if_pos (by omega), t2, m2, wrap64_id (x := ((e / 2 : Nat) : Int)) (by omega) (by omega), raw x x hx hx]
      have key : ∀ b : Nat, b < 1073741789 → wageofficeref27_powerQ.l0 k ((x * x % 1073741789 : Nat) : Int) ((e / 2 : Nat) : Int) (b : Int) = some ((b * (x * x % 1073741789) ^ (e / 2) % 1073741789 : Nat) : Int) := fun b hb =>
        ih k (x * x % 1073741789) (e / 2) b (by omega) (by omega) hr hb (by omega)
      have hpw : (x * x % 1073741789) ^ (e / 2) % 1073741789 = x ^ (2 * (e / 2)) % 1073741789 := by rw [← Nat.pow_mod, ← Nat.pow_two, ← Nat.pow_mul]
      by_cases h1 : e % 2 = 1
      · rw [if_pos (by rw [h1]; rfl), raw acc x ha hx, key _ (Nat.mod_lt _ (by decide))]
        congr 2
        rw [Nat.mul_mod, hpw, ← Nat.mul_mod, Nat.mod_mul_mod]
        rw [show acc * x * x ^ (2 * (e / 2)) = acc * x ^ (2 * (e / 2) + 1) by rw [Nat.pow_succ, Nat.mul_assoc, Nat.mul_comm x]]
        rw [show 2 * (e / 2) + 1 = e by omega]
      · rw [if_neg (by omega), key _ ha]
        congr 2
        rw [Nat.mul_mod, hpw, ← Nat.mul_mod, show 2 * (e / 2) = e by omega]
theorem powerQ_eq (b e : Int) (hb : 0 ≤ b ∧ b < 1073741789) (he : 0 ≤ e ∧ e ≤ 9223372036854775807) (k : Nat) (hk : 70 ≤ k) : wageofficeref27_powerQ.f k b e = some (pq e.toNat b) := by
  obtain ⟨b, rfl⟩ : ∃ x : Nat, b = x := ⟨b.toNat, by omega⟩
  obtain ⟨e, rfl⟩ : ∃ x : Nat, e = x := ⟨e.toNat, by omega⟩
  have := powerQ_loop 63 k b e 1 (by omega) (by omega) (by omega) (by decide) (by omega)
  unfold wageofficeref27_powerQ.f
  rw [Nat.one_mul] at this
  exact this
theorem power2_loop (n : Nat) (hn : n ≤ 62) : ∀ (d i k : Nat), i + d = n → d < k → wageofficeref27_power2.l0 k (n : Int) ((2 ^ i : Nat) : Int) (i : Int) = some ((2 ^ n : Nat) : Int) := by
  intro d
  induction d with
  | zero =>
    intro i k hi hk
    obtain ⟨k, rfl⟩ := rounds (show 0 < k by omega)
    rw [wageofficeref27_power2.l0, if_neg (by omega), show i = n by omega]
  | succ d ih =>
    intro i k hi hk
    obtain ⟨k, rfl⟩ := rounds (show 0 < k by omega)
    have hp : 2 ^ (i + 1) ≤ 2 ^ 62 := Nat.pow_le_pow_right (by decide) (by omega)
    have hpi : ((2 ^ (i + 1) : Nat) : Int) ≤ 4611686018427387904 := Int.le_trans (Int.ofNat_le.2 hp) (by decide)
    have hpn : 0 ≤ ((2 ^ (i + 1) : Nat) : Int) := Int.natCast_nonneg _
    rw [wageofficeref27_power2.l0, if_pos (by omega), wrap64_id (x := (i : Int) + 1) (by omega) (by omega), show (2 : Int) * ((2 ^ i : Nat) : Int) = ((2 ^ (i + 1) : Nat) : Int) by rw [Nat.pow_succ]; push_cast; omega,
      wrap64_id (x := ((2 ^ (i + 1) : Nat) : Int)) (by generalize ((2 ^ (i + 1) : Nat) : Int) = z at *; omega) (by generalize ((2 ^ (i + 1) : Nat) : Int) = z at *; omega)]
    exact ih (i + 1) k (by omega) (by omega)
theorem power2_eq (n : Int) (h : 0 ≤ n ∧ n ≤ 62) (k : Nat) (hk : 70 ≤ k) : wageofficeref27_power2.f k n = some ((2 ^ n.toNat : Nat) : Int) := by
  obtain ⟨n, rfl⟩ : ∃ x : Nat, n = x := ⟨n.toNat, by omega⟩
  exact power2_loop n (by omega) n 0 k (by omega) (by omega)
end Go.Proofs.YtnlgnmlobklobaaDoor.RfL
