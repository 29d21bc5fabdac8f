/- What rangeproof.Prove and rangeproof.Verify (as printed) compute, said plainly; the references' Prove and Verify compute the same. Bit proofs, plain: what Prove makes is valid; changed replies, challenges and first messages are not; two accepted transcripts open the commitment. The law package's head (layer 27) answers true: by the laws of bit proofs, without computing them. -/
import Derived.Test.YtnlgnmlobklobaaDoorPAllx2
import Derived.Test.YtnlgnmlobklobaaDoorPAllx3
import Derived.Test.YtnlgnmlobklobaaDoorRfL
import Derived.Test.YtnlgnmlobklobaaDoorPAllx5
set_option linter.unusedVariables false
set_option linter.unusedSimpArgs false
namespace Go.Proofs.YtnlgnmlobklobaaDoor.RpP
open Go.RowKit Go.Proofs.YtnlgnmlobklobaaDoor Go.Proofs.YtnlgnmlobklobaaDoor.PAll Go.Proofs.YtnlgnmlobklobaaDoorW.PrintWords Go.Proofs.YtnlgnmlobklobaaDoorW.PrintMore
open Go.Proofs.YtnlgnmlobklobaaDoor.Stub Go.Proofs.YtnlgnmlobklobaaDoor.Com Go.Proofs.YtnlgnmlobklobaaDoor.Hash Go.Proofs.YtnlgnmlobklobaaDoor.RfL
abbrev S := S25
def bp (x : S) : Bp := ⟨x.f0, x.f1.f0, x.f1.f1, x.f2.f0, x.f2.f1, x.f3.f0, x.f3.f1⟩
def mk (b : Bp) : S := ⟨b.c, ⟨b.f0, b.f1⟩, ⟨b.c0, b.c1⟩, ⟨b.r0, b.r1⟩⟩
theorem bp_mk (b : Bp) : bp (mk b) = b := rfl
def validB (x : S) : Bool := rightB (bp x) && ((x.f2.f0 + x.f2.f1) % 1073741789 == chal x.f0 x.f1.f0 x.f1.f1)
/-- The product from the bit i on. -/
def prodF : List S → Nat → Int → Int
  | [], _, acc => acc
  | x :: l, i, acc => prodF l (i + 1) (mulI acc (pwI x.f0 ((2 ^ i : Nat) : Int)))
theorem prodF_range : ∀ (l : List S) (i : Nat) (acc : Int), 0 ≤ acc ∧ acc < 2147483579 → 0 ≤ prodF l i acc ∧ prodF l i acc < 2147483579
  | [], _, _, h => h
  | _ :: l, i, _, _ => prodF_range l (i + 1) _ (mulI_range _ _)
def verB (c n : Int) (l : List S) : Bool := decide (1 ≤ n ∧ n ≤ 28 ∧ (l.length : Int) = n) && l.all validB && (prodF l 0 1 == c)
theorem sideB_el {d f c r : Int} (h : sideB d f c r = true) : elB f = true ∧ nuB c = true ∧ nuB r = true := by
  unfold sideB at h
  simp only [Bool.and_eq_true] at h
  exact ⟨h.1.1.1, h.1.1.2, h.1.2⟩
theorem right_parts {x : Bp} (h : rightB x = true) : elB x.c = true ∧ elB x.f0 = true ∧ elB x.f1 = true ∧ nuB x.c0 = true ∧ nuB x.c1 = true ∧ nuB x.r0 = true ∧ nuB x.r1 = true := by
  unfold rightB at h
  simp only [Bool.and_eq_true] at h
  obtain ⟨a, b, c⟩ := h
  have hb := sideB_el b
  have hc := sideB_el c
  exact ⟨a, hb.1, hc.1, hb.2.1, hc.2.1, hb.2.2, hc.2.2⟩
theorem rd_get (l : List S) (i : Nat) (h : i < l.length) : rd_T25 l (i : Int) = l[i] := by
  unfold rd_T25
  rw [Int.toNat_natCast, List.getD_eq_getElem?_getD, List.getElem?_eq_getElem h]
  rfl
theorem hash_f (s : ByteArray) (l : List Int) (h : hashOk s l = true) : rangeproof_hash.f s l = some (hsh s l) := by unfold rangeproof_hash.f; rw [if_pos h]
theorem hashOk3 (a b c : Int) (ha : elB a = true) (hb : elB b = true) (hc : elB c = true) : hashOk word_c [a, b, c] = true := by
  have := elB_range ha
  have := elB_range hb
  have := elB_range hc
  unfold hashOk i64ok
  simp only [Bool.and_eq_true, decide_eq_true_eq, List.all_cons, List.all_nil, Bool.and_true]
  exact ⟨⟨by decide, by simp⟩, by omega, by omega, by omega⟩
theorem shl1 (i : Nat) (h : i ≤ 62) : shl .i64 1 (i : Int) = ((2 ^ i : Nat) : Int) := by
  have hp : 2 ^ i ≤ 2 ^ 62 := Nat.pow_le_pow_right (by decide) h
  have hpi : ((2 ^ i : Nat) : Int) ≤ 4611686018427387904 := Int.le_trans (Int.ofNat_le.2 hp) (by decide)
  have hpn : 0 ≤ ((2 ^ i : Nat) : Int) := Int.natCast_nonneg _
  unfold shl
  rw [Int.toNat_natCast, Nat.min_eq_left (show i ≤ IntKind.i64.bits by show i ≤ 64; omega), Int.one_mul]
  rw [show ((2 : Int) ^ i) = ((2 ^ i : Nat) : Int) by rw [Int.natCast_pow]; rfl]
  generalize ((2 ^ i : Nat) : Int) = z at *
  exact IntWalk.i64_in _ (by omega)
theorem to_eq (c : Int) (hc : 0 ≤ c ∧ c < 2147483579) (i : Nat) (h : i ≤ 62) : rangeproof_element_to.f c (shl .i64 1 (i : Int)) = some (pwI c ((2 ^ i : Nat) : Int)) := by
  have hp : 2 ^ i ≤ 2 ^ 62 := Nat.pow_le_pow_right (by decide) h
  have hpi : ((2 ^ i : Nat) : Int) ≤ 4611686018427387904 := Int.le_trans (Int.ofNat_le.2 hp) (by decide)
  have hpn : 0 ≤ ((2 ^ i : Nat) : Int) := Int.natCast_nonneg _
  unfold rangeproof_element_to.f commitment_Power.f
  rw [shl1 i h, if_pos (Int.le_trans hpi (by decide)), Option.bind_some, powF_in ⟨hc.1, hc.2, hpn⟩]
theorem sum_raw (a b : Int) (ha : nuB a = true) (hb : nuB b = true) : Int.tmod (wrap64 (a + b)) 1073741789 = (a + b) % 1073741789 := by
  have := nuB_range ha
  have := nuB_range hb
  rw [wrap64_id (by omega) (by omega), Int.tmod_eq_emod_of_nonneg (by omega)]
theorem ver_loop (c : Int) (l : List S) (hl : l.length ≤ 40) : ∀ (d i k : Nat) (acc : Int), i + d = l.length → 2 * d < k → 0 ≤ acc ∧ acc < 2147483579 →
    rangeproof_Verify.l0 k c acc l (l.length : Int) (i : Int) = some ((l.drop i).all validB && (prodF (l.drop i) i acc == c)) := by
  intro d
  induction d with
  | zero =>
    intro i k acc hi hk ha
    obtain ⟨k, rfl⟩ := rounds (show 0 < k by omega)
    rw [rangeproof_Verify.l0, if_neg (by omega), List.drop_of_length_le (by omega)]
    rfl
  | succ d ih =>
    intro i k acc hi hk ha
    obtain ⟨k, rfl⟩ := rounds (show 0 < k by omega)
    obtain ⟨k, rfl⟩ := rounds (show 0 < k by omega)
    have hlt : i < l.length := by omega
    rw [rangeproof_Verify.l0, if_pos (by omega), if_pos (by omega), if_pos (by omega), rd_get l i hlt, List.drop_eq_getElem_cons hlt]
    generalize hx : l[i] = x
    rw [show rangeproof_isRight.f x.f0 x.f1.f0 x.f1.f1 x.f2.f0 x.f2.f1 x.f3.f0 x.f3.f1 = some (rightB (bp x)) from rfl, Option.bind_some]
    rw [List.all_cons]
    by_cases hr : rightB (bp x) = true
    · obtain ⟨e0, e1, e2, n0, n1, _, _⟩ := right_parts hr
      have e0 : elB x.f0 = true := e0
      have e1 : elB x.f1.f0 = true := e1
      have e2 : elB x.f1.f1 = true := e2
      have n0 : nuB x.f2.f0 = true := n0
      have n1 : nuB x.f2.f1 = true := n1
      rw [if_pos hr]
      have hh : rangeproof_hash.f (⟨#[99]⟩ : ByteArray) [x.f0, x.f1.f0, x.f1.f1] = some (chal x.f0 x.f1.f0 x.f1.f1) := hash_f word_c _ (hashOk3 _ _ _ e0 e1 e2)
      rw [hh, Option.bind_some, rangeproof_Verify.j2, sum_raw _ _ n0 n1]
      by_cases hc : (x.f2.f0 + x.f2.f1) % 1073741789 = chal x.f0 x.f1.f0 x.f1.f1
      · have hv : validB x = true := by unfold validB; rw [hr]; simpa using hc
        have hm := mulI_range acc (pwI x.f0 ((2 ^ i : Nat) : Int))
        have ht : rangeproof_element_times.f acc (pwI x.f0 ((2 ^ i : Nat) : Int)) = some (mulI acc (pwI x.f0 ((2 ^ i : Nat) : Int))) := times_eq acc _ ha (pwI_range _ _)
        rw [if_neg (by simpa using hc), if_pos (by omega), to_eq _ (elB_range e0) i (by omega), Option.bind_some, ht, Option.bind_some, wrap64_id (by omega) (by omega)]
        have := ih (i + 1) k _ (by omega) (by omega) hm
        rw [show ((i + 1 : Nat) : Int) = (i : Int) + 1 from rfl] at this
        rw [this, hv]
        rfl
      · have hv : validB x = false := by unfold validB; rw [hr]; simpa using hc
        rw [if_pos (by simpa using hc), hv]
        rfl
    · have hv : validB x = false := by unfold validB; rw [Bool.not_eq_true _ |>.mp hr]; rfl
      rw [if_neg hr, rangeproof_Verify.j2, if_pos rfl, hv]
      rfl
theorem Verify_eq (c n : Int) (l : List S) (hl : l.length ≤ 40) (k : Nat) (hk : 100 ≤ k) : rangeproof_Verify.f k c n l = some (verB c n l) := by
  unfold rangeproof_Verify.f verB
  obtain ⟨k, rfl⟩ := rounds (show 0 < k by omega)
  have bad : rangeproof_Verify.j0 (k + 1) c l true = some false := by rw [rangeproof_Verify.j0, if_pos rfl]
  by_cases h1 : n < 1
  · rw [if_pos h1, bad, decide_eq_false (by omega)]; rfl
  · by_cases h2 : n > 28
    · rw [if_neg h1, if_pos h2, bad, decide_eq_false (by omega)]; rfl
    · by_cases h3 : (l.length : Int) = n
      · rw [if_neg h1, if_neg h2, show ((l.length : Int) != n) = false by simpa using h3, rangeproof_Verify.j0, if_neg (by decide), decide_eq_true (by omega)]
        exact ver_loop c l hl l.length 0 k 1 (by omega) (by omega) (by decide)
      · rw [if_neg h1, if_neg h2, show ((l.length : Int) != n) = true by simpa using h3, bad, decide_eq_false (by omega)]; rfl
/-! ### Prove -/
/-- The random number of a seed with j and 0. -/
def rnd (seed : ByteArray) (j : Nat) : Int := hsh seed [(j : Int), 0]
/-- The first blinding number after the rounds 1 .. j - 1. -/
def bz (seed : ByteArray) (r : Int) : Nat → Int
  | 0 => r
  | 1 => r
  | j + 2 => (bz seed r (j + 1) + 1073741789 - rnd seed (j + 1) * ((2 ^ (j + 1) : Nat) : Int) % 1073741789) % 1073741789
def bl (seed : ByteArray) (r : Int) (n j : Nat) : Int := if j = 0 then bz seed r n else rnd seed j
def prf (v r : Int) (n : Nat) (seed : ByteArray) : List S := (List.range n).map fun j => mk (bitP (v / ((2 ^ j : Nat) : Int) % 2) (bl seed r n j) seed j)
def proveP (v r n : Int) (seed : ByteArray) : List S × Int :=
  if 1 ≤ n ∧ n ≤ 28 ∧ nuB r = true then (if 0 ≤ v ∧ v < ((2 ^ n.toNat : Nat) : Int) then (prf v r n.toNat seed, 0) else ([], 3)) else ([], 1)
theorem prf_length (v r : Int) (n : Nat) (seed : ByteArray) : (prf v r n seed).length = n := by unfold prf; simp
theorem rnd_range (seed : ByteArray) (j : Nat) : 0 ≤ rnd seed j ∧ rnd seed j < 1073741789 := hsh_range _ _
theorem bz_range (seed : ByteArray) (r : Int) (hr : 0 ≤ r ∧ r < 1073741789) : ∀ j, 0 ≤ bz seed r j ∧ bz seed r j < 1073741789
  | 0 => hr
  | 1 => hr
  | j + 2 => by rw [bz]; exact ⟨Int.emod_nonneg _ (by decide), Int.emod_lt_of_pos _ (by decide)⟩
theorem bl_range (seed : ByteArray) (r : Int) (hr : 0 ≤ r ∧ r < 1073741789) (n j : Nat) : 0 ≤ bl seed r n j ∧ bl seed r n j < 1073741789 := by
  unfold bl; split
  · exact bz_range seed r hr n
  · exact rnd_range seed j
theorem pow_int (j : Nat) (h : j ≤ 30) : 0 < ((2 ^ j : Nat) : Int) ∧ ((2 ^ j : Nat) : Int) ≤ 1073741824 := by
  have hp : 2 ^ j ≤ 2 ^ 30 := Nat.pow_le_pow_right (by decide) h
  have h0 : 0 < 2 ^ j := Nat.two_pow_pos j
  generalize 2 ^ j = z at *
  omega
theorem bitOk_of {b r : Int} {seed : ByteArray} {j : Nat} (hb : b = 0 ∨ b = 1) (hr : 0 ≤ r ∧ r < 1073741789) (hs : seed.size ≤ 1000000) (hj : j < 100) : bitOk b r seed j = true := by
  unfold bitOk nuB
  simp only [Bool.and_eq_true, decide_eq_true_eq]
  exact ⟨⟨⟨hb, hr⟩, hs⟩, by omega, by omega⟩
theorem step_raw (z h : Int) (j : Nat) (hj : j ≤ 28) (hz : 0 ≤ z ∧ z < 1073741789) (hh : 0 ≤ h ∧ h < 1073741789) :
    Int.tmod (wrap64 ((wrap64 (z - (Int.tmod (shl .i64 h (j : Int)) 1073741789))) + 1073741789)) 1073741789 = (z + 1073741789 - h * ((2 ^ j : Nat) : Int) % 1073741789) % 1073741789 := by
  have hp := pow_int j (by omega)
  have h0 : 0 ≤ h * ((2 ^ j : Nat) : Int) := Int.mul_nonneg hh.1 (by omega)
  have h1 : h * ((2 ^ j : Nat) : Int) ≤ 1073741789 * 1073741824 := Int.mul_le_mul (by omega) (by omega) (by omega) (by decide)
  have hsh : shl .i64 h (j : Int) = h * ((2 ^ j : Nat) : Int) := by
    unfold shl
    rw [Int.toNat_natCast, Nat.min_eq_left (show j ≤ IntKind.i64.bits by show j ≤ 64; omega)]
    rw [show ((2 : Int) ^ j) = ((2 ^ j : Nat) : Int) by rw [Int.natCast_pow]; rfl]
    generalize h * ((2 ^ j : Nat) : Int) = z at *
    exact IntWalk.i64_in _ (by omega)
  rw [hsh]
  generalize h * ((2 ^ j : Nat) : Int) = p at *
  rw [Int.tmod_eq_emod_of_nonneg h0, wrap64_id (x := z - p % 1073741789) (by omega) (by omega), wrap64_id (by omega) (by omega), Int.tmod_eq_emod_of_nonneg (by omega)]
  omega
/-- The blinding numbers while they are being made. -/
def blL (seed : ByteArray) (r : Int) (n j : Nat) : List Int := (List.range n).map fun i => if i = 0 then bz seed r j else if i < j then rnd seed i else 0
theorem blL_length (seed : ByteArray) (r : Int) (n j : Nat) : (blL seed r n j).length = n := by unfold blL; simp
theorem blL_get (seed : ByteArray) (r : Int) (n j i : Nat) (h : i < n) : (blL seed r n j)[i]? = some (if i = 0 then bz seed r j else if i < j then rnd seed i else 0) := by
  unfold blL; simp [h]
theorem rd_of {l : List Int} {i : Nat} {x : Int} (h : l[i]? = some x) : rd l (i : Int) = x := by
  unfold rd; rw [Int.toNat_natCast, List.getD_eq_getElem?_getD, h]; rfl
theorem hashOk2 (seed : ByteArray) (hs : seed.size ≤ 1000000) (j : Nat) (hj : j < 100) : hashOk seed [(j : Int), 0] = true := by
  unfold hashOk i64ok
  simp only [Bool.and_eq_true, decide_eq_true_eq, List.all_cons, List.all_nil, Bool.and_true]
  exact ⟨⟨by omega, by simp⟩, by omega, by omega⟩
theorem blL_step (seed : ByteArray) (r : Int) (n j : Nat) (h1 : 1 ≤ j) (h : j < n) (z : Int) (hz : z = bz seed r (j + 1)) :
    ((blL seed r n j).set (j : Int).toNat (rnd seed j)).set (0 : Int).toNat z = blL seed r n (j + 1) := by
  apply List.ext_getElem?
  intro i
  rw [Int.toNat_natCast, show (0 : Int).toNat = 0 from rfl]
  by_cases hi : i < n
  · rw [blL_get seed r n (j + 1) i hi, List.getElem?_set, List.getElem?_set, List.length_set, blL_length, blL_get seed r n j i hi]
    by_cases h0 : i = 0
    · subst h0; simp [show 0 < n by omega, hz]
    · by_cases hj : i = j
      · subst hj; simp [Ne.symm h0, h0, h]
      · simp only [Ne.symm h0, if_false, h0, Ne.symm hj]
        by_cases hlt : i < j
        · rw [if_pos hlt, if_pos (by omega)]
        · rw [if_neg hlt, if_neg (by omega)]
  · rw [List.getElem?_eq_none (by simp [blL_length]; omega), List.getElem?_eq_none (by simp [blL_length]; omega)]
theorem bit_raw (v : Int) (hv : 0 ≤ v ∧ v < 9223372036854775808) (i : Nat) (hi : i < 63) : Go.bits .and .i64 (shr .i64 v (i : Int)) 1 = v / ((2 ^ i : Nat) : Int) % 2 := by
  obtain ⟨u, rfl⟩ : ∃ u : Nat, v = u := ⟨v.toNat, by omega⟩
  rw [bit_of u i hi (by omega)]
  rw [Int.natCast_emod, Int.natCast_ediv]
  rfl
theorem l1_loop (v r : Int) (n : Nat) (seed : ByteArray) (hs : seed.size ≤ 1000000) (hn : n ≤ 28) (hr : 0 ≤ r ∧ r < 1073741789) (hv : 0 ≤ v ∧ v < 9223372036854775808) : ∀ (d j k : Nat), j + d = n → d < k → 1 ≤ n →
    rangeproof_Prove.l1 k v seed ((prf v r n seed).take j) (blL seed r n n) (n : Int) (j : Int) = some (prf v r n seed, 0) := by
  intro d
  induction d with
  | zero =>
    intro j k hj hk h1
    obtain ⟨k, rfl⟩ := rounds (show 0 < k by omega)
    rw [rangeproof_Prove.l1, if_neg (by omega), List.take_of_length_le (by rw [prf_length]; omega)]
  | succ d ih =>
    intro j k hj hk h1
    obtain ⟨k, rfl⟩ := rounds (show 0 < k by omega)
    have hget : rd (blL seed r n n) (j : Int) = bl seed r n j := by
      rw [rd_of (blL_get seed r n n j (by omega))]
      unfold bl
      by_cases h0 : j = 0
      · rw [if_pos h0, if_pos h0]
      · rw [if_neg h0, if_neg h0, if_pos (by omega)]
    have hb := bl_range seed r hr n j
    have hbit : v / ((2 ^ j : Nat) : Int) % 2 = 0 ∨ v / ((2 ^ j : Nat) : Int) % 2 = 1 := by omega
    rw [rangeproof_Prove.l1, if_pos (by omega), if_pos (by omega), blL_length, if_pos (by omega), bit_raw v hv j (by omega), hget]
    rw [rangeproof_proveBit.f, if_pos (bitOk_of hbit hb hs (by omega)), Option.bind_some, if_pos (by rw [List.length_take]; omega), wrap64_id (by omega) (by omega)]
    have := ih (j + 1) k (by omega) (by omega) h1
    rw [show ((j + 1 : Nat) : Int) = (j : Int) + 1 from rfl, List.take_succ_eq_append_getElem (by rw [prf_length]; omega)] at this
    rw [← this]
    congr 2
    unfold prf
    simp
    rfl
theorem l0_loop (v r : Int) (n : Nat) (seed : ByteArray) (hs : seed.size ≤ 1000000) (hn : n ≤ 28) (hr : 0 ≤ r ∧ r < 1073741789) (hv : 0 ≤ v ∧ v < 9223372036854775808) : ∀ (d j k : Nat), j + d = n → d + n + 1 < k → 1 ≤ j →
    rangeproof_Prove.l0 k v (n : Int) seed (blL seed r n j) (j : Int) = some (prf v r n seed, 0) := by
  intro d
  induction d with
  | zero =>
    intro j k hj hk h1
    obtain ⟨k, rfl⟩ := rounds (show 0 < k by omega)
    obtain rfl : j = n := by omega
    rw [rangeproof_Prove.l0, if_neg (by omega), blL_length]
    exact l1_loop v r j seed hs hn hr hv j 0 k (by omega) (by omega) h1
  | succ d ih =>
    intro j k hj hk h1
    obtain ⟨k, rfl⟩ := rounds (show 0 < k by omega)
    have hlt : j < n := by omega
    rw [rangeproof_Prove.l0, if_pos (by omega), hash_f seed _ (hashOk2 seed hs j (by omega)), Option.bind_some, if_pos (by omega), blL_length, if_pos (by omega), Option.bind_some, if_pos (by omega)]
    have hset : (blL seed r n j).set (j : Int).toNat (hsh seed [(j : Int), 0]) = (blL seed r n j).set (j : Int).toNat (rnd seed j) := rfl
    have g0 : rd ((blL seed r n j).set (j : Int).toNat (rnd seed j)) 0 = bz seed r j := by
      refine rd_of (i := 0) ?_
      rw [Int.toNat_natCast, List.getElem?_set_ne (by omega), blL_get seed r n j 0 (by omega), if_pos rfl]
    have gj : rd ((blL seed r n j).set (j : Int).toNat (rnd seed j)) (j : Int) = rnd seed j := by
      refine rd_of ?_
      rw [Int.toNat_natCast, List.getElem?_set_self (by rw [blL_length]; omega)]
    have hz := bz_range seed r hr j
    have hh := rnd_range seed j
    rw [hset, g0, gj, step_raw _ _ j (by omega) hz hh, wrap64_id (x := (j : Int) + 1) (by omega) (by omega)]
    rw [blL_step seed r n j h1 hlt _ (by obtain ⟨m, rfl⟩ : ∃ m, j = m + 1 := ⟨j - 1, by omega⟩; rw [bz])]
    exact ih (j + 1) k (by omega) (by omega) (by omega)
theorem shr_zero (v : Int) (hv : 0 ≤ v) (n : Nat) (hn : n ≤ 28) : (shr .i64 v (n : Int) != 0) = decide (¬ v < ((2 ^ n : Nat) : Int)) := by
  have hp := pow_int n (by omega)
  have hsh : shr .i64 v (n : Int) = v / ((2 ^ n : Nat) : Int) := by
    unfold shr
    rw [Int.toNat_natCast, Nat.min_eq_left (show n ≤ IntKind.i64.bits by show n ≤ 64; omega), show ((2 : Int) ^ n) = ((2 ^ n : Nat) : Int) by rw [Int.natCast_pow]; rfl]
  rw [hsh]
  generalize ((2 ^ n : Nat) : Int) = p at *
  by_cases h : v < p
  · rw [Int.ediv_eq_zero_of_lt hv h, decide_eq_false (by simpa using h)]; rfl
  · rw [decide_eq_true h]
    have : v / p ≠ 0 := by
      intro h0
      have h1 : 1 ≤ v / p := by rw [Int.le_ediv_iff_mul_le hp.1]; omega
      omega
    simpa using this
theorem Prove_eq (v r n : Int) (seed : ByteArray) (hs : seed.size ≤ 1000000) (hv : -9223372036854775808 ≤ v ∧ v ≤ 9223372036854775807) (k : Nat) (hk : 100 ≤ k) :
    rangeproof_Prove.f k v r n seed = some (proveP v r n seed) := by
  unfold rangeproof_Prove.f proveP
  obtain ⟨k, rfl⟩ := rounds (show 0 < k by omega)
  obtain ⟨k, rfl⟩ := rounds (show 0 < k by omega)
  have bad : rangeproof_Prove.j0 (k + 1 + 1) v r n seed true = some ([], 1) := by rw [rangeproof_Prove.j0, if_pos rfl]
  have bad1 : rangeproof_Prove.j1 (k + 1) v r n seed true = some ([], 3) := by rw [rangeproof_Prove.j1, if_pos rfl]
  by_cases h1 : n < 1
  · rw [if_pos h1, bad, if_neg (by omega)]
  · by_cases h2 : n > 28
    · rw [if_neg h1, if_pos h2, bad, if_neg (by omega)]
    · rw [if_neg h1, if_neg h2]
      rw [show rangeproof_isNumber.f r = some (nuB r) from number_eq r, Option.bind_some]
      by_cases h3 : nuB r = true
      · have hr := nuB_range h3
        obtain ⟨n, rfl⟩ : ∃ u : Nat, n = u := ⟨n.toNat, by omega⟩
        rw [h3, if_pos ⟨by omega, by omega, rfl⟩, show (!true) = false from rfl, rangeproof_Prove.j0, if_neg (by decide), Int.toNat_natCast]
        by_cases h4 : v < 0
        · rw [if_pos h4, bad1, if_neg (by omega)]
        · rw [if_neg h4, if_pos (by omega), shr_zero v (by omega) n (by omega)]
          by_cases h5 : v < ((2 ^ n : Nat) : Int)
          · rw [decide_eq_false (by simpa using h5), if_pos ⟨by omega, h5⟩, rangeproof_Prove.j1, if_neg (by decide), if_pos (by omega), if_pos (by omega), Option.bind_some, List.length_replicate, if_pos (by omega)]
            have e : (List.replicate (n : Int).toNat (0 : Int)).set (0 : Int).toNat r = blL seed r n 1 := by
              apply List.ext_getElem?
              intro i
              rw [Int.toNat_natCast, show (0 : Int).toNat = 0 from rfl]
              by_cases hi : i < n
              · rw [blL_get seed r n 1 i hi, List.getElem?_set, List.length_replicate, List.getElem?_replicate]
                by_cases h0 : i = 0
                · subst h0; rw [if_pos rfl, if_pos (by omega), if_pos rfl]; rfl
                · rw [if_neg (Ne.symm h0), if_pos (by omega), if_neg h0, if_neg (by omega)]
              · rw [List.getElem?_eq_none (by simp; omega), List.getElem?_eq_none (by simp [blL_length]; omega)]
            rw [e]
            exact l0_loop v r n seed hs (by omega) hr ⟨by omega, by omega⟩ (n - 1) 1 k (by omega) (by omega) (by omega)
          · rw [decide_eq_true h5, bad1, if_neg (by omega)]
      · rw [show nuB r = false by simpa using h3, show (!false) = true from rfl, bad, if_neg (by simp)]
end Go.Proofs.YtnlgnmlobklobaaDoor.RpP
set_option linter.unusedVariables false
set_option linter.unusedSimpArgs false
namespace Go.Proofs.YtnlgnmlobklobaaDoor.RpP
open Go.RowKit Go.Proofs.YtnlgnmlobklobaaDoor Go.Proofs.YtnlgnmlobklobaaDoor.PAll
open Go.Proofs.YtnlgnmlobklobaaDoor.Stub Go.Proofs.YtnlgnmlobklobaaDoor.Com Go.Proofs.YtnlgnmlobklobaaDoor.Hash Go.Proofs.YtnlgnmlobklobaaDoor.RfL Go.Proofs.YtnlgnmlobklobaaDoor.Grp
/-! ### the group, over Int -/
def ElI (x : Int) : Prop := ∃ n : Nat, x = n ∧ El n
theorem ElI.range {x : Int} (h : ElI x) : 0 < x ∧ x < 2147483579 := by
  obtain ⟨n, rfl, hn⟩ := h
  have := hn.pos
  have := hn.1
  omega
theorem elI_iff (x : Int) : elB x = true ↔ ElI x := by
  unfold elB
  rw [decide_eq_true_eq]
  constructor
  · rintro ⟨h0, h1, h2⟩
    obtain ⟨n, rfl⟩ : ∃ n : Nat, x = n := ⟨x.toNat, by omega⟩
    refine ⟨n, rfl, by omega, ?_⟩
    exact Int.ofNat.inj (show ((pw n 1073741789 : Nat) : Int) = ((1 : Nat) : Int) from h2)
  · rintro ⟨n, rfl, h⟩
    refine ⟨by have := h.pos; omega, by have := h.1; omega, ?_⟩
    show ((pw n 1073741789 : Nat) : Int) = ((1 : Nat) : Int)
    rw [h.2]
theorem pwI_nat (b e : Nat) : pwI (b : Int) (e : Int) = (pw b e : Int) := rfl
theorem ElI.pow {x : Int} (h : ElI x) (e : Int) : ElI (pwI x e) := by
  obtain ⟨n, rfl, hn⟩ := h
  exact ⟨_, rfl, hn.pow _⟩
theorem ElI.mul {x y : Int} (h : ElI x) (h' : ElI y) : ElI (mulI x y) := by
  obtain ⟨n, rfl, hn⟩ := h
  obtain ⟨m, rfl, hm⟩ := h'
  exact ⟨_, mulI_nat n m, hn.mul hm⟩
theorem ElI.nine : ElI 9 := ⟨9, rfl, El.nine⟩
theorem ElI.four : ElI 4 := ⟨4, rfl, El.four⟩
theorem invI_nat (n : Nat) : invI (n : Int) = (inv n : Int) := rfl
theorem ElI.inv {x : Int} (h : ElI x) : ElI (invI x) := h.pow _
theorem pw_add' (x a b : Nat) : pw x a * pw x b % 2147483579 = pw x (a + b) := (pw_add x a b).symm
theorem mul_assoc' (a b c : Nat) : a * b % 2147483579 * c % 2147483579 = a * (b * c % 2147483579) % 2147483579 := by rw [mul_mod_l, mul_mod_r, Nat.mul_assoc]
theorem mul_comm' (a b : Nat) : a * b % 2147483579 = b * a % 2147483579 := by rw [Nat.mul_comm]
theorem one_mul' {a : Nat} (h : a < 2147483579) : 1 * a % 2147483579 = a := by rw [Nat.one_mul, Nat.mod_eq_of_lt h]
theorem com_el (v r : Nat) : El (com v r) := (El.four.pow v).mul (El.nine.pow r)
/-! ### what Prove makes is valid -/
/-- The true side: 9^(k + c r) = 9^k (9^r)^c. -/
theorem side_true (k c r : Int) (hk : 0 ≤ k ∧ k < 1073741789) (hc : 0 ≤ c ∧ c < 1073741789) (hr : 0 ≤ r ∧ r < 1073741789) : sideB (pwI 9 r) (pwI 9 k) c ((k + c * r) % 1073741789) = true := by
  obtain ⟨k, rfl⟩ : ∃ n : Nat, k = n := ⟨k.toNat, by omega⟩
  obtain ⟨c, rfl⟩ : ∃ n : Nat, c = n := ⟨c.toNat, by omega⟩
  obtain ⟨r, rfl⟩ : ∃ n : Nat, r = n := ⟨r.toNat, by omega⟩
  have hm : ((k : Int) + c * r) % 1073741789 = (((k + c * r) % 1073741789 : Nat) : Int) := by rw [Int.natCast_emod, Int.natCast_add, Int.natCast_mul]; rfl
  have hlt := Nat.mod_lt (k + c * r) (show 0 < 1073741789 by decide)
  unfold sideB
  rw [(elI_iff _).2 (ElI.nine.pow _), hm]
  have n1 : nuB (c : Int) = true := decide_eq_true hc
  have n2 : nuB (((k + c * r) % 1073741789 : Nat) : Int) = true := decide_eq_true ⟨by omega, by omega⟩
  rw [n1, n2]
  have e : pwI 9 (((k + c * r) % 1073741789 : Nat) : Int) = mulI (pwI 9 (k : Int)) (pwI (pwI 9 (r : Int)) (c : Int)) := by
    rw [show (9 : Int) = ((9 : Nat) : Int) from rfl, pwI_nat, pwI_nat, pwI_nat, pwI_nat, mulI_nat, El.nine.exp, ← pw_mul, ← pw_add, Nat.mul_comm c r]
  rw [e]
  simp
/-- The simulated side: 9^z = (9^z D^-e) D^e. -/
theorem side_sim (D e z : Int) (hD : ElI D) (he : 0 ≤ e ∧ e < 1073741789) (hz : 0 ≤ z ∧ z < 1073741789) : sideB D (mulI (pwI 9 z) (pwI (invI D) e)) e z = true := by
  unfold sideB
  rw [(elI_iff _).2 ((ElI.nine.pow _).mul (hD.inv.pow _)), show nuB e = true from decide_eq_true he, show nuB z = true from decide_eq_true hz]
  obtain ⟨d, rfl, hd⟩ := hD
  obtain ⟨e, rfl⟩ : ∃ n : Nat, e = n := ⟨e.toNat, by omega⟩
  obtain ⟨z, rfl⟩ : ∃ n : Nat, z = n := ⟨z.toNat, by omega⟩
  have h : mulI (mulI (pwI 9 (z : Int)) (pwI (invI (d : Int)) (e : Int))) (pwI (d : Int) (e : Int)) = pwI 9 (z : Int) := by
    rw [show (9 : Int) = ((9 : Nat) : Int) from rfl, invI_nat, pwI_nat, pwI_nat, pwI_nat, mulI_nat, mulI_nat, mul_assoc', hd.inv_pow, Nat.mul_one, Nat.mod_eq_of_lt (pw_lt _ _)]
  rw [h]
  simp
theorem comI_eq (b r : Int) (hb : 0 ≤ b ∧ b < 1073741789) (hr : 0 ≤ r ∧ r < 1073741789) : comI b r = ((com b.toNat r.toNat : Int), 0) := by
  unfold comI
  rw [if_pos ⟨decide_eq_true hb, decide_eq_true hr⟩]
theorem comI_el (b r : Int) (hb : 0 ≤ b ∧ b < 1073741789) (hr : 0 ≤ r ∧ r < 1073741789) : ElI (comI b r).1 := by rw [comI_eq b r hb hr]; exact ⟨_, rfl, com_el _ _⟩
theorem com0 (r : Int) (hr : 0 ≤ r ∧ r < 1073741789) : (comI 0 r).1 = pwI 9 r := by
  rw [comI_eq 0 r (by decide) hr]
  unfold com pwI
  rw [show (0 : Int).toNat = 0 from rfl, pw_zero, one_mul' (pw_lt _ _)]
  rfl
theorem com1 (r : Int) (hr : 0 ≤ r ∧ r < 1073741789) : mulI (comI 1 r).1 (invI 4) = pwI 9 r := by
  rw [comI_eq 1 r (by decide) hr]
  unfold com
  rw [show (4 : Int) = ((4 : Nat) : Int) from rfl, invI_nat, mulI_nat, show (1 : Int).toNat = 1 from rfl, pw_one (by decide), mul_comm' 4, mul_assoc', mul_comm' 4, El.four.inv_mul, Nat.mul_one, Nat.mod_eq_of_lt (pw_lt _ _)]
  rfl
theorem valid_bit (b r : Int) (seed : ByteArray) (j : Int) (hb : b = 0 ∨ b = 1) (hr : 0 ≤ r ∧ r < 1073741789) : validB (mk (bitP b r seed j)) = true := by
  have hk := hsh_range seed [j, 1]
  have he := hsh_range seed [j, 2]
  have hz := hsh_range seed [j, 3]
  unfold validB
  rw [bp_mk]
  have h4 : ElI (invI 4) := ElI.four.inv
  rcases hb with rfl | rfl
  · have hc : ElI (comI 0 r).1 := comI_el 0 r (by decide) hr
    unfold bitP
    rw [if_pos rfl]
    unfold bit0P mk
    dsimp only
    generalize hF1 : mulI (pwI 9 (hsh seed [j, 3])) (pwI (invI (mulI (comI 0 r).1 (invI 4))) (hsh seed [j, 2])) = F1
    have hs := side_sim (mulI (comI 0 r).1 (invI 4)) (hsh seed [j, 2]) (hsh seed [j, 3]) (hc.mul h4) he hz
    rw [hF1] at hs
    have hch := hsh_range word_c [(comI 0 r).1, pwI 9 (hsh seed [j, 1]), F1]
    have hch' : 0 ≤ chal (comI 0 r).1 (pwI 9 (hsh seed [j, 1])) F1 ∧ chal (comI 0 r).1 (pwI 9 (hsh seed [j, 1])) F1 < 1073741789 := hch
    have ht := side_true (hsh seed [j, 1]) ((chal (comI 0 r).1 (pwI 9 (hsh seed [j, 1])) F1 - hsh seed [j, 2]) % 1073741789) r hk (by omega) hr
    rw [← com0 r hr] at ht
    unfold rightB
    rw [(elI_iff _).2 hc, ht, hs]
    rw [Bool.true_and, Bool.true_and, Bool.true_and, beq_iff_eq]
    omega
  · have hc : ElI (comI 1 r).1 := comI_el 1 r (by decide) hr
    unfold bitP
    rw [if_neg (by decide)]
    unfold bit1P mk
    dsimp only
    generalize hF0 : mulI (pwI 9 (hsh seed [j, 3])) (pwI (invI (comI 1 r).1) (hsh seed [j, 2])) = F0
    have hs := side_sim (comI 1 r).1 (hsh seed [j, 2]) (hsh seed [j, 3]) hc he hz
    rw [hF0] at hs
    have hch := hsh_range word_c [(comI 1 r).1, F0, pwI 9 (hsh seed [j, 1])]
    have hch' : 0 ≤ chal (comI 1 r).1 F0 (pwI 9 (hsh seed [j, 1])) ∧ chal (comI 1 r).1 F0 (pwI 9 (hsh seed [j, 1])) < 1073741789 := hch
    have ht := side_true (hsh seed [j, 1]) ((chal (comI 1 r).1 F0 (pwI 9 (hsh seed [j, 1])) - hsh seed [j, 2]) % 1073741789) r hk (by omega) hr
    rw [← com1 r hr] at ht
    unfold rightB
    rw [(elI_iff _).2 hc, ht, hs]
    rw [Bool.true_and, Bool.true_and, Bool.true_and, beq_iff_eq]
    omega
theorem bit_of_v (v : Int) (j : Nat) : v / ((2 ^ j : Nat) : Int) % 2 = 0 ∨ v / ((2 ^ j : Nat) : Int) % 2 = 1 := by omega
theorem prf_valid (v r : Int) (n : Nat) (seed : ByteArray) (hr : 0 ≤ r ∧ r < 1073741789) : ∀ x ∈ prf v r n seed, validB x = true := by
  intro x hx
  unfold prf at hx
  obtain ⟨j, _, rfl⟩ := List.mem_map.1 hx
  exact valid_bit _ _ seed _ (bit_of_v v j) (bl_range seed r hr n j)
/-! ### the product -/
/-- The exponents' sum over the first m bits. -/
def expS (seed : ByteArray) (r : Int) (n : Nat) : Nat → Nat
  | 0 => 0
  | m + 1 => expS seed r n m + (bl seed r n m).toNat * 2 ^ m
theorem com_pow (b r e : Nat) : pw (com b r) e = pw 4 (b * e) * pw 9 (r * e) % 2147483579 := by
  unfold com
  rw [pw_base, pw_mul, pw_mul]
theorem com_mul (a r b s : Nat) : com a r * com b s % 2147483579 = com (a + b) (r + s) := by
  unfold com
  rw [mul_mod_l, mul_mod_r, pw_add, pw_add, mul_mod_l, mul_mod_r]
  congr 1
  rw [Nat.mul_assoc, Nat.mul_assoc, Nat.mul_left_comm (pw 9 r)]
theorem com_exp {a r s : Nat} (h : r % 1073741789 = s % 1073741789) : com a r = com a s := by
  unfold com
  rw [El.nine.exp_eq h]
theorem prf_c (v r : Int) (n : Nat) (seed : ByteArray) (hr : 0 ≤ r ∧ r < 1073741789) (j : Nat) (h : j < n) : ∃ x, (prf v r n seed)[j]? = some x ∧ x.f0 = (com (v / ((2 ^ j : Nat) : Int) % 2).toNat (bl seed r n j).toNat : Int) := by
  have hb := bl_range seed r hr n j
  refine ⟨mk (bitP (v / ((2 ^ j : Nat) : Int) % 2) (bl seed r n j) seed j), by unfold prf; simp [h], ?_⟩
  show (bitP _ _ _ _).c = _
  have hc : (bitP (v / ((2 ^ j : Nat) : Int) % 2) (bl seed r n j) seed j).c = (comI (v / ((2 ^ j : Nat) : Int) % 2) (bl seed r n j)).1 := by
    rcases bit_of_v v j with e | e
    · rw [e]; rfl
    · rw [e]; rfl
  rw [hc, comI_eq _ _ (by have := bit_of_v v j; omega) hb]
theorem prodF_snoc : ∀ (l : List S) (x : S) (i : Nat) (acc : Int), prodF (l ++ [x]) i acc = mulI (prodF l i acc) (pwI x.f0 ((2 ^ (i + l.length) : Nat) : Int))
  | [], x, i, acc => rfl
  | y :: l, x, i, acc => by
    rw [List.cons_append, prodF, prodF, prodF_snoc l x (i + 1), List.length_cons]
    rw [show i + 1 + l.length = i + (l.length + 1) by omega]
theorem prod_take (v r : Int) (n : Nat) (seed : ByteArray) (hr : 0 ≤ r ∧ r < 1073741789) (hv : 0 ≤ v) : ∀ m, m ≤ n → prodF ((prf v r n seed).take m) 0 1 = (com (v % ((2 ^ m : Nat) : Int)).toNat (expS seed r n m) : Int)
  | 0, _ => by
    rw [List.take_zero, prodF, Nat.pow_zero, show v % ((1 : Nat) : Int) = 0 by omega]
    unfold com expS
    rw [show (0 : Int).toNat = 0 from rfl, pw_zero, pw_zero]
    rfl
  | m + 1, h => by
    have ih := prod_take v r n seed hr hv m (by omega)
    obtain ⟨x, hx, hc⟩ := prf_c v r n seed hr m (by omega)
    have hlt : m < (prf v r n seed).length := by rw [prf_length]; omega
    rw [List.getElem?_eq_getElem hlt] at hx
    have hx := Option.some.inj hx
    rw [List.take_succ_eq_append_getElem hlt, prodF_snoc, ih, List.length_take, prf_length, Nat.min_eq_left (by omega), hx, hc, Nat.zero_add, pwI_nat, mulI_nat, com_pow]
    rw [show pw 4 ((v / ((2 ^ m : Nat) : Int) % 2).toNat * 2 ^ m) * pw 9 ((bl seed r n m).toNat * 2 ^ m) % 2147483579 = com ((v / ((2 ^ m : Nat) : Int) % 2).toNat * 2 ^ m) ((bl seed r n m).toNat * 2 ^ m) from rfl, com_mul]
    have hd : (v % ((2 ^ m : Nat) : Int)).toNat + (v / ((2 ^ m : Nat) : Int) % 2).toNat * 2 ^ m = (v % ((2 ^ (m + 1) : Nat) : Int)).toNat := by
      obtain ⟨u, rfl⟩ : ∃ u : Nat, v = u := ⟨v.toNat, by omega⟩
      rw [← Int.natCast_emod, ← Int.natCast_ediv, ← Int.natCast_emod, show ((u / 2 ^ m : Nat) : Int) % 2 = ((u / 2 ^ m % 2 : Nat) : Int) from rfl, Int.toNat_natCast, Int.toNat_natCast, Int.toNat_natCast]
      rw [Nat.pow_succ, Nat.mod_mul, Nat.mul_comm (2 ^ m)]
    rw [hd]
    rfl
/-- The exponents' sum is the blinding number. -/
theorem exp_sum (seed : ByteArray) (r : Int) (hr : 0 ≤ r ∧ r < 1073741789) : ∀ n : Nat, 1 ≤ n → ∀ m, 1 ≤ m → m ≤ n → ((expS seed r n m : Nat) : Int) % 1073741789 = (bz seed r n - bz seed r m + r) % 1073741789 := by
  intro n hn m h1 hm
  induction m with
  | zero => omega
  | succ m ih =>
    by_cases h0 : m = 0
    · subst h0
      unfold expS expS bl
      rw [if_pos rfl]
      have := bz_range seed r hr n
      rw [show bz seed r (0 + 1) = r from rfl]
      rw [Nat.pow_zero]
      omega
    · have ih := ih (by omega) (by omega)
      have hb := rnd_range seed m
      have hbm : bl seed r n m = rnd seed m := by unfold bl; rw [if_neg h0]
      rw [expS, hbm]
      obtain ⟨k, rfl⟩ : ∃ k, m = k + 1 := ⟨m - 1, by omega⟩
      rw [bz]
      rw [Int.natCast_add, Int.natCast_mul, Int.toNat_of_nonneg hb.1]
      generalize rnd seed (k + 1) * ((2 ^ (k + 1) : Nat) : Int) = P at *
      generalize ((expS seed r n (k + 1) : Nat) : Int) = E at *
      generalize bz seed r (k + 1) = Z at *
      generalize bz seed r n = N at *
      omega
theorem exp_all (seed : ByteArray) (r : Int) (hr : 0 ≤ r ∧ r < 1073741789) (n : Nat) (hn : 1 ≤ n) : expS seed r n n % 1073741789 = r.toNat := by
  have := exp_sum seed r hr n hn n hn (Nat.le_refl _)
  omega
theorem prod_all (v r : Int) (n : Nat) (seed : ByteArray) (hn : 1 ≤ n) (hr : 0 ≤ r ∧ r < 1073741789) (hv : 0 ≤ v ∧ v < ((2 ^ n : Nat) : Int)) : prodF (prf v r n seed) 0 1 = (com v.toNat r.toNat : Int) := by
  have := prod_take v r n seed hr hv.1 n (Nat.le_refl _)
  rw [List.take_of_length_le (by rw [prf_length]; exact Nat.le_refl _), Int.emod_eq_of_lt hv.1 hv.2] at this
  rw [this]
  congr 1
  exact com_exp (by rw [exp_all seed r hr n hn, Nat.mod_eq_of_lt (by omega)])
theorem complete (v r : Int) (n : Nat) (seed : ByteArray) (h1 : 1 ≤ n) (hn : n ≤ 28) (hr : 0 ≤ r ∧ r < 1073741789) (hv : 0 ≤ v ∧ v < ((2 ^ n : Nat) : Int)) : verB (comI v r).1 n (prf v r n seed) = true := by
  have hp := pow_int n (by omega)
  have hp28 : ((2 ^ n : Nat) : Int) ≤ 268435456 := Int.le_trans (Int.ofNat_le.2 (Nat.pow_le_pow_right (by decide) hn)) (by decide)
  unfold verB
  rw [prf_length, decide_eq_true (by omega), prod_all v r n seed h1 hr hv, comI_eq v r (by omega) hr]
  have := List.all_eq_true.2 (prf_valid v r n seed hr)
  rw [this]
  simp
/-! ### changes -/
theorem nine_ne : (9 : Nat) ≠ 1 := by decide
/-- One side has one reply. -/
theorem side_reply {d f c r s : Int} (h : sideB d f c r = true) (h' : sideB d f c s = true) : r = s := by
  have n1 := (sideB_el h).2.2
  have n2 := (sideB_el h').2.2
  unfold sideB at h h'
  simp only [Bool.and_eq_true, beq_iff_eq] at h h'
  have e := h.2.trans h'.2.symm
  have r1 := nuB_range n1
  have r2 := nuB_range n2
  obtain ⟨r, rfl⟩ : ∃ n : Nat, r = n := ⟨r.toNat, by omega⟩
  obtain ⟨s, rfl⟩ : ∃ n : Nat, s = n := ⟨s.toNat, by omega⟩
  rw [show (9 : Int) = ((9 : Nat) : Int) from rfl, pwI_nat, pwI_nat] at e
  have := El.nine.inj nine_ne (by omega) (by omega) (Int.ofNat.inj e)
  omega
/-- One side has one first message. -/
theorem side_first {d f g c r : Int} (hd : ElI d) (h : sideB d f c r = true) (h' : sideB d g c r = true) : f = g := by
  obtain ⟨f, rfl, hf⟩ := (elI_iff _).1 (sideB_el h).1
  obtain ⟨g, rfl, hg⟩ := (elI_iff _).1 (sideB_el h').1
  unfold sideB at h h'
  simp only [Bool.and_eq_true, beq_iff_eq] at h h'
  have e := h.2.symm.trans h'.2
  obtain ⟨y, hy, hY⟩ := hd.pow c
  rw [hy, mulI_nat, mulI_nat] at e
  have e := Int.ofNat.inj e
  rw [mul_comm' f, mul_comm' g] at e
  have := hY.cancel e
  rw [Nat.mod_eq_of_lt hf.1, Nat.mod_eq_of_lt hg.1] at this
  rw [this]
/-! ### extraction -/
/-- Two accepted transcripts of one side: D is a power of 9 with the exponent that Extract computes. -/
theorem side_open {d f c r c' r' : Int} (hd : ElI d) (h : sideB d f c r = true) (h' : sideB d f c' r' = true) (hne : c ≠ c') :
    d = pwI 9 ((r - r' + 1073741789) % 1073741789 * pq 1073741787 ((c - c' + 1073741789) % 1073741789) % 1073741789) := by
  have hn1 := sideB_el h
  have hn2 := sideB_el h'
  have c1 := nuB_range hn1.2.1
  have c2 := nuB_range hn2.2.1
  have r1 := nuB_range hn1.2.2
  have r2 := nuB_range hn2.2.2
  obtain ⟨f, rfl, hf⟩ := (elI_iff _).1 hn1.1
  obtain ⟨d, rfl, hd⟩ := hd
  unfold sideB at h h'
  simp only [Bool.and_eq_true, beq_iff_eq] at h h'
  have e1 := h.2
  have e2 := h'.2
  obtain ⟨c, rfl⟩ : ∃ n : Nat, c = n := ⟨c.toNat, by omega⟩
  obtain ⟨r, rfl⟩ : ∃ n : Nat, r = n := ⟨r.toNat, by omega⟩
  obtain ⟨c', rfl⟩ : ∃ n : Nat, c' = n := ⟨c'.toNat, by omega⟩
  obtain ⟨r', rfl⟩ : ∃ n : Nat, r' = n := ⟨r'.toNat, by omega⟩
  rw [show (9 : Int) = ((9 : Nat) : Int) from rfl, pwI_nat, pwI_nat, mulI_nat] at e1 e2
  have e1 := Int.ofNat.inj e1
  have e2 := Int.ofNat.inj e2
  obtain ⟨z, hz⟩ : ∃ z : Nat, ((r : Int) - r' + 1073741789) % 1073741789 = z := ⟨(((r : Int) - r' + 1073741789) % 1073741789).toNat, by omega⟩
  obtain ⟨a, ha⟩ : ∃ z : Nat, ((c : Int) - c' + 1073741789) % 1073741789 = z := ⟨(((c : Int) - c' + 1073741789) % 1073741789).toNat, by omega⟩
  have ha0 : 0 < a ∧ a < 1073741789 := by omega
  rw [hz, ha]
  -- 9^z = d^a
  have k1 : pw 9 (z + r') = pw 9 r := El.nine.exp_eq (by omega)
  have k2 : pw d (a + c') = pw d c := hd.exp_eq (by omega)
  have key : pw 9 z = pw d a := by
    have x1 : pw 9 z * (f * pw d c' % 2147483579) % 2147483579 = f * (pw d a * pw d c' % 2147483579) % 2147483579 := by
      rw [← e2, pw_add', k1, e1, pw_add', k2]
    rw [mul_mod_r, mul_mod_r] at x1
    have x2 : f * pw d c' % 2147483579 * pw 9 z % 2147483579 = f * pw d c' % 2147483579 * pw d a % 2147483579 := by
      rw [mul_mod_l, mul_mod_l, Nat.mul_comm _ (pw 9 z), x1, Nat.mul_comm (pw d a), Nat.mul_assoc]
    have := (hf.mul (hd.pow c')).cancel x2
    rwa [Nat.mod_eq_of_lt (pw_lt _ _), Nat.mod_eq_of_lt (pw_lt _ _)] at this
  have hq := q_inv 1073741787 rfl ha0.1 ha0.2
  have hpq : pq 1073741787 (a : Int) = ((a ^ 1073741787 % 1073741789 : Nat) : Int) := by unfold pq; rw [Int.toNat_natCast]
  rw [hpq]
  generalize a ^ 1073741787 % 1073741789 = b at hq
  rw [show ((z : Int) * (b : Int)) % 1073741789 = ((z * b % 1073741789 : Nat) : Int) by rw [Int.natCast_emod, Int.natCast_mul]; rfl, show (9 : Int) = ((9 : Nat) : Int) from rfl, pwI_nat]
  congr 1
  rw [El.nine.exp, pw_mul, key, ← pw_mul, hd.exp_eq (b := 1) (by rw [hq]), pw_one hd.1]
end Go.Proofs.YtnlgnmlobklobaaDoor.RpP
set_option linter.unusedVariables false
set_option linter.unusedSimpArgs false
namespace Go.Proofs.YtnlgnmlobklobaaDoor.RpP
open Go.RowKit Go.Proofs.YtnlgnmlobklobaaDoor Go.Proofs.YtnlgnmlobklobaaDoor.PAll Go.Proofs.YtnlgnmlobklobaaDoorW.PrintWords Go.Proofs.YtnlgnmlobklobaaDoorW.PrintMore
open Go.Proofs.YtnlgnmlobklobaaDoor.Stub Go.Proofs.YtnlgnmlobklobaaDoor.Com Go.Proofs.YtnlgnmlobklobaaDoor.Hash Go.Proofs.YtnlgnmlobklobaaDoor.RfL Go.Proofs.YtnlgnmlobklobaaDoor.Grp
theorem wf_i64 {a : Int} (h : (Lit.int .i64 a).wf = true) : -9223372036854775808 ≤ a ∧ a ≤ 9223372036854775807 := by
  have h : IntKind.i64.min ≤ a ∧ a ≤ IntKind.i64.max := by simpa [Lit.wf] using h
  have e1 : IntKind.i64.min = -9223372036854775808 := rfl
  have e2 : IntKind.i64.max = 9223372036854775807 := rfl
  omega
theorem wf_u32 {a : Int} (h : (Lit.int .u32 a).wf = true) : 0 ≤ a ∧ a ≤ 4294967295 := by
  have h : IntKind.u32.min ≤ a ∧ a ≤ IntKind.u32.max := by simpa [Lit.wf] using h
  have e1 : IntKind.u32.min = 0 := rfl
  have e2 : IntKind.u32.max = 4294967295 := rfl
  omega
theorem wf_u8 {a : Int} (h : (Lit.int .u8 a).wf = true) : 0 ≤ a ∧ a ≤ 255 := by
  have h : IntKind.u8.min ≤ a ∧ a ≤ IntKind.u8.max := by simpa [Lit.wf] using h
  have e1 : IntKind.u8.min = 0 := rfl
  have e2 : IntKind.u8.max = 255 := rfl
  omega
theorem num_l0 : ∀ (k : Nat) (s : ByteArray) (n : Int), wageofficelaw27_number.l0 k s n = wageofficeref27_digits.l0 k s n
  | 0, s, n => rfl
  | k + 1, s, n => by
    rw [wageofficelaw27_number.l0, wageofficeref27_digits.l0]
    simp only [num_l0 k]
theorem num_eq (n : Int) (h0 : 0 ≤ n) (h1 : n ≤ 9223372036854775807) (k : Nat) (hk : 25 ≤ k) : wageofficelaw27_number.f k n = some ⟨(Lib.itoa n).toArray⟩ := by
  have := digits_eq n h0 h1 k hk
  unfold wageofficeref27_digits.f at this
  unfold wageofficelaw27_number.f
  rw [num_l0]
  exact this
theorem sum_f' (s : ByteArray) (h : s.size ≤ 9223372036854775807) : digest_Sum.f s = some (Dig.sum s) := sum_f s h
theorem text3 (a b c : Int) : (((((⟨#[99, 32]⟩ : ByteArray) ++ ⟨(Lib.itoa a).toArray⟩) ++ (⟨#[32]⟩ : ByteArray)) ++ ⟨(Lib.itoa b).toArray⟩) ++ (⟨#[32]⟩ : ByteArray)) ++ ⟨(Lib.itoa c).toArray⟩ = ⟨(txt word_c [a, b, c]).toArray⟩ := by
  rw [sp, show (⟨#[99, 32]⟩ : ByteArray) = ⟨([99, 32] : List UInt8).toArray⟩ from rfl, app_mk, app_mk, app_mk, app_mk, app_mk]
  unfold txt word_c
  simp
theorem extr_self (c f0 f1 c0 c1 r0 r1 : Int) : extrP c f0 f1 c0 c1 r0 r1 c f0 f1 c0 c1 r0 r1 = (0, 0, false) := by
  unfold extrP
  split
  · rw [if_neg (by simp), if_neg (by simp)]
  · rfl
/-- Behind the test: the sum of the challenges is the digest of the text. -/
theorem head_j1 (x : S) (l : List S) (hx : rd_T25 l 0 = x) (hl : 0 < l.length) (hv : validB x = true) (k : Nat) (hk : 30 ≤ k) : wageofficelaw27_head0.j1 k l false = some true := by
  obtain ⟨k, rfl⟩ := rounds (show 0 < k by omega)
  unfold validB at hv
  rw [Bool.and_eq_true, beq_iff_eq] at hv
  obtain ⟨hr, hs⟩ := hv
  obtain ⟨e0, e1, e2, n0, n1, _, _⟩ := right_parts hr
  have r0 := elB_range (show elB x.f0 = true from e0)
  have r1 := elB_range (show elB x.f1.f0 = true from e1)
  have r2 := elB_range (show elB x.f1.f1 = true from e2)
  have l1 := itoa_len x.f0 (by omega) (by omega)
  have l2 := itoa_len x.f1.f0 (by omega) (by omega)
  have l3 := itoa_len x.f1.f1 (by omega) (by omega)
  rw [wageofficelaw27_head0.j1, if_neg (by decide), if_pos (by omega), hx]
  rw [show rangeproof_Extract.f x.f0 x.f1.f0 x.f1.f1 x.f2.f0 x.f2.f1 x.f3.f0 x.f3.f1 x.f0 x.f1.f0 x.f1.f1 x.f2.f0 x.f2.f1 x.f3.f0 x.f3.f1 = some (0, 0, false) by unfold rangeproof_Extract.f; rw [extr_self], Option.bind_some, if_neg (by decide)]
  rw [num_eq x.f0 (by omega) (by omega) k (by omega), Option.bind_some, size_mk (Lib.itoa x.f0), if_pos (by omega), if_pos (by omega), num_eq x.f1.f0 (by omega) (by omega) k (by omega), Option.bind_some, size_mk (Lib.itoa x.f1.f0), if_pos (by omega), if_pos (by omega),
    num_eq x.f1.f1 (by omega) (by omega) k (by omega), Option.bind_some, size_mk (Lib.itoa x.f1.f1), if_pos (by omega), text3]
  have hz : (⟨(txt word_c [x.f0, x.f1.f0, x.f1.f1]).toArray⟩ : ByteArray).size ≤ 80 := by
    rw [size_mk]
    unfold txt word_c
    simp
    omega
  have hm := mod_eq ⟨(txt word_c [x.f0, x.f1.f0, x.f1.f1]).toArray⟩
  unfold wageofficeref27_mod.f at hm
  have hm := Option.some.inj hm
  rw [sum_f _ (by omega), Option.bind_some, hm, sum_raw _ _ (show nuB x.f2.f0 = true from n0) (show nuB x.f2.f1 = true from n1), hs]
  have : chal x.f0 x.f1.f0 x.f1.f1 = Dig.sum ⟨(txt word_c [x.f0, x.f1.f0, x.f1.f1]).toArray⟩ % 1073741789 := rfl
  rw [this]
  simp
theorem com_57 : com 5 7 ≠ com 4 7 := by decide
theorem head0_eq (k : Nat) (hk : 300 ≤ k) : wageofficelaw27_head0.f k = some true := by
  have h7 : (0 : Int) ≤ 7 ∧ (7 : Int) < 1073741789 := by decide
  have hc := complete 5 7 3 (⟨#[120]⟩ : ByteArray) (by decide) (by decide) h7 (by decide)
  have hl := prf_length 5 7 3 (⟨#[120]⟩ : ByteArray)
  have hp := prod_all 5 7 3 (⟨#[120]⟩ : ByteArray) (by decide) h7 (by decide)
  have hvs := prf_valid 5 7 3 (⟨#[120]⟩ : ByteArray) h7
  have e5 : comI 5 7 = ((com 5 7 : Int), 0) := comI_eq 5 7 (by decide) h7
  have e4 : comI 4 7 = ((com 4 7 : Int), 0) := comI_eq 4 7 (by decide) h7
  have hP : rangeproof_Prove.f k 5 7 3 (⟨#[120]⟩ : ByteArray) = some (prf 5 7 3 (⟨#[120]⟩ : ByteArray), 0) := by
    rw [Prove_eq 5 7 3 _ (by decide) (by decide) k (by omega)]
    unfold proveP
    rw [if_pos ⟨by decide, by decide, by decide⟩, if_pos (by decide)]
    rfl
  generalize hL : prf 5 7 3 (⟨#[120]⟩ : ByteArray) = L at *
  have v1 : verB (com 5 7 : Int) 3 L = true := by rw [e5] at hc; exact hc
  have v2 : verB (com 4 7 : Int) 3 L = false := by
    unfold verB
    rw [hp, show (5 : Int).toNat = 5 from rfl, show (7 : Int).toNat = 7 from rfl, show ((com 5 7 : Int) == (com 4 7 : Int)) = false by rw [beq_eq_false_iff_ne]; intro h; exact com_57 (Int.ofNat.inj h), Bool.and_false]
  have v3 : verB (com 5 7 : Int) 4 L = false := by
    unfold verB
    rw [decide_eq_false (by omega)]
    rfl
  unfold wageofficelaw27_head0.f
  rw [show commitment_Commit.f 5 7 = some ((com 5 7 : Int), 0) by unfold commitment_Commit.f; rw [e5], Option.bind_some, show commitment_Commit.f 4 7 = some ((com 4 7 : Int), 0) by unfold commitment_Commit.f; rw [e4], Option.bind_some, hP, Option.bind_some]
  dsimp only
  rw [if_pos rfl, if_pos rfl, if_pos rfl, if_pos (by omega), Verify_eq _ 3 L (by omega) k (by omega), v1, Option.bind_some, if_pos rfl, Verify_eq _ 3 L (by omega) k (by omega), v2, Option.bind_some, if_neg (by decide), Verify_eq _ 4 L (by omega) k (by omega), v3, Option.bind_some]
  obtain ⟨k, rfl⟩ := rounds (show 0 < k by omega)
  obtain ⟨k, rfl⟩ := rounds (show 0 < k by omega)
  have hP8 : rangeproof_Prove.f (k + 1) 8 7 3 (⟨#[120]⟩ : ByteArray) = some ([], 3) := by
    rw [Prove_eq 8 7 3 _ (by decide) (by decide) (k + 1) (by omega)]
    unfold proveP
    rw [if_pos ⟨by decide, by decide, by decide⟩, if_neg (by decide)]
  rw [wageofficelaw27_head0.j0, hP8, Option.bind_some]
  dsimp only
  rw [show (!false) = true from rfl, if_pos rfl, show ((3 : Int) != 3) = false from rfl]
  have h0 : rd_T25 L 0 = L[0] := rd_get L 0 (by omega)
  exact head_j1 L[0] L h0 (by omega) (hvs _ (List.getElem_mem _)) (k + 1) (by omega)
theorem head_eq (k : Nat) (hk : 300 ≤ k) : wageofficelaw27_head.f k = some true := wageofficelaw27_head.true_ (head0_eq k hk)
end Go.Proofs.YtnlgnmlobklobaaDoor.RpP
