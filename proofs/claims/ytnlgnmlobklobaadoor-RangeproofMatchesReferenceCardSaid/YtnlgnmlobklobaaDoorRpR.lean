/- The references' Prove, Verify, Same (layer 27, as printed) compute what the program's do. -/
import Derived.Test.YtnlgnmlobklobaaDoorRpX
import Derived.Test.YtnlgnmlobklobaaDoorPAllx9
-- HALF the printed indentation
set_option linter.unusedVariables false
set_option linter.unusedSimpArgs false
namespace Go.Proofs.YtnlgnmlobklobaaDoor.RpP
open Go.RowKit Go.Proofs.YtnlgnmlobklobaaDoor Go.Proofs.YtnlgnmlobklobaaDoor.PAll Go.Proofs.YtnlgnmlobklobaaDoorW.PrintWords Go.Proofs.YtnlgnmlobklobaaDoorW.PrintMore
open Go.Proofs.YtnlgnmlobklobaaDoor.Stub Go.Proofs.YtnlgnmlobklobaaDoor.Com Go.Proofs.YtnlgnmlobklobaaDoor.Hash Go.Proofs.YtnlgnmlobklobaaDoor.RfL
theorem rstep_raw (z h : Int) (j : Nat) (hj : j ≤ 28) (hz : 0 ≤ z ∧ z < 1073741789) (hh : 0 ≤ h ∧ h < 1073741789) :
  Int.tmod (wrap64 ((wrap64 (z + 1073741789)) - (Int.tmod (wrap64 (((2 ^ j : Nat) : Int) * h)) 1073741789))) 1073741789 = (z + 1073741789 - h * ((2 ^ j : Nat) : Int) % 1073741789) % 1073741789 := by
 have hp := pow_int j (by omega)
 have h0 : 0 ≤ h * ((2 ^ j : Nat) : Int) := Int.mul_nonneg hh.1 (by omega)
 have h1 : h * ((2 ^ j : Nat) : Int) ≤ 1073741789 * 1073741824 := Int.mul_le_mul (by omega) (by omega) (by omega) (by decide)
 rw [Int.mul_comm ((2 ^ j : Nat) : Int) h]
 generalize h * ((2 ^ j : Nat) : Int) = p at *
 rw [wrap64_id (x := p) (by omega) (by omega), Int.tmod_eq_emod_of_nonneg h0, wrap64_id (x := z + 1073741789) (by omega) (by omega), wrap64_id (by omega) (by omega), Int.tmod_eq_emod_of_nonneg (by omega)]
theorem rbit_raw (v : Int) (hv : 0 ≤ v ∧ v < 9223372036854775808) (p : Int) (hp : 0 < p) : Int.tmod (wrap64 (Int.tdiv v p)) 2 = v / p % 2 := by
 have h0 : 0 ≤ v / p := Int.ediv_nonneg hv.1 (by omega)
 have h1 : v / p ≤ v := Int.ediv_le_self _ hv.1
 rw [Int.tdiv_eq_ediv_of_nonneg hv.1, wrap64_id (by omega) (by omega), Int.tmod_eq_emod_of_nonneg h0]
theorem rl1_loop (v r : Int) (n : Nat) (seed : ByteArray) (hs : seed.size ≤ 1000000) (hn : n ≤ 28) (hr : 0 ≤ r ∧ r < 1073741789) (hv : 0 ≤ v ∧ v < 9223372036854775808) : ∀ (d j k : Nat), j + d = n → d + seed.size + 100 < k →
  wageofficeref27_Prove.l1 k v (n : Int) seed (bz seed r n) ((prf v r n seed).take j) (j : Int) = some (prf v r n seed, 0) := by
 intro d
 induction d with
 | zero =>
  intro j k hj hk
  obtain ⟨k, rfl⟩ := rounds (show 0 < k by omega)
  rw [wageofficeref27_Prove.l1, if_neg (by omega), List.take_of_length_le (by rw [prf_length]; omega)]
 | succ d ih =>
  intro j k hj hk
  obtain ⟨k, rfl⟩ := rounds (show 0 < k by omega)
  have hb := bl_range seed r hr n j
  have hbit : v / ((2 ^ j : Nat) : Int) % 2 = 0 ∨ v / ((2 ^ j : Nat) : Int) % 2 = 1 := by omega
  have hp := pow_int j (by omega)
  have hp2 := power2_eq (j : Int) (by omega) k (by omega)
  rw [Int.toNat_natCast] at hp2
  have := ih (j + 1) k (by omega) (by omega)
  rw [show ((j + 1 : Nat) : Int) = (j : Int) + 1 from rfl, List.take_succ_eq_append_getElem (by rw [prf_length]; omega)] at this
  have hbf : wageofficeref27_bit.f (v / ((2 ^ j : Nat) : Int) % 2) (bl seed r n j) seed (j : Int) = some (tup (bitP (v / ((2 ^ j : Nat) : Int) % 2) (bl seed r n j) seed j)) := by
   unfold wageofficeref27_bit.f
   rw [if_pos (bitOk_of hbit hb hs (by omega))]
  rw [wageofficeref27_Prove.l1, if_pos (by omega)]
  by_cases h0 : j = 0
  ·have hbl : bl seed r n j = bz seed r n := by unfold bl; rw [if_pos h0]
   rw [hbl] at hbf
   rw [if_neg (by omega), hp2, Option.bind_some, if_neg (by omega), rbit_raw v hv _ hp.1, hbf, Option.bind_some, if_pos (by rw [List.length_take]; omega), wrap64_id (by omega) (by omega)]
   rw [← this]
   congr 2
   unfold prf
   simp
   rw [hbl]
   rfl
  ·have hbl : bl seed r n j = rnd seed j := by unfold bl; rw [if_neg h0]
   rw [hbl] at hbf
   rw [if_pos (by omega), random_eq seed hs (j : Int) 0 (by omega) (by omega) k (by omega), Option.bind_some, hp2, Option.bind_some, if_neg (by omega), rbit_raw v hv _ hp.1]
   rw [show hsh seed [(j : Int), 0] = rnd seed j from rfl, hbf, Option.bind_some, if_pos (by rw [List.length_take]; omega), wrap64_id (by omega) (by omega)]
   rw [← this]
   congr 2
   unfold prf
   simp
   rw [hbl]
   rfl
theorem rl0_loop (v r : Int) (n : Nat) (seed : ByteArray) (hs : seed.size ≤ 1000000) (hn : n ≤ 28) (hr : 0 ≤ r ∧ r < 1073741789) (hv : 0 ≤ v ∧ v < 9223372036854775808) : ∀ (d j k : Nat), j + d = n → d + n + seed.size + 200 < k → 1 ≤ j →
  wageofficeref27_Prove.l0 k v (n : Int) seed (bz seed r j) (j : Int) = some (prf v r n seed, 0) := by
 intro d
 induction d with
 | zero =>
  intro j k hj hk h1
  obtain ⟨k, rfl⟩ := rounds (show 0 < k by omega)
  obtain rfl : j = n := by omega
  rw [wageofficeref27_Prove.l0, if_neg (by omega)]
  exact rl1_loop v r j seed hs hn hr hv j 0 k (by omega) (by omega)
 | succ d ih =>
  intro j k hj hk h1
  obtain ⟨k, rfl⟩ := rounds (show 0 < k by omega)
  have hp2 := power2_eq (j : Int) (by omega) k (by omega)
  rw [Int.toNat_natCast] at hp2
  have hz := bz_range seed r hr j
  have hh := rnd_range seed j
  rw [wageofficeref27_Prove.l0, if_pos (by omega), hp2, Option.bind_some, random_eq seed hs (j : Int) 0 (by omega) (by omega) k (by omega), Option.bind_some, show hsh seed [(j : Int), 0] = rnd seed j from rfl,
   rstep_raw _ _ j (by omega) hz hh, wrap64_id (x := (j : Int) + 1) (by omega) (by omega)]
  have := ih (j + 1) k (by omega) (by omega) (by omega)
  obtain ⟨m, rfl⟩ : ∃ m, j = m + 1 := ⟨j - 1, by omega⟩
  rw [bz] at this
  exact this
theorem rProve_eq (v r n : Int) (seed : ByteArray) (hs : seed.size ≤ 1000000) (hv : -9223372036854775808 ≤ v ∧ v ≤ 9223372036854775807) (k : Nat) (hk : seed.size + 400 ≤ k) :
  wageofficeref27_Prove.f k v r n seed = some (proveP v r n seed) := by
 unfold wageofficeref27_Prove.f proveP
 obtain ⟨k, rfl⟩ := rounds (show 0 < k by omega)
 obtain ⟨k, rfl⟩ := rounds (show 0 < k by omega)
 have bad : wageofficeref27_Prove.j0 (k + 1 + 1) v r n seed true = some ([], 1) := by rw [wageofficeref27_Prove.j0, if_pos rfl]
 have bad1 : wageofficeref27_Prove.j1 (k + 1) v r n seed true = some ([], 3) := by rw [wageofficeref27_Prove.j1, if_pos rfl]
 by_cases h1 : n < 1
 ·rw [if_pos h1, bad, if_neg (by omega)]
 ·by_cases h2 : n > 28
  ·rw [if_neg h1, if_pos h2, bad, if_neg (by omega)]
  ·rw [if_neg h1, if_neg h2, number_eq r, Option.bind_some]
   by_cases h3 : nuB r = true
   ·have hr := nuB_range h3
    obtain ⟨n, rfl⟩ : ∃ u : Nat, n = u := ⟨n.toNat, by omega⟩
    rw [h3, if_pos ⟨by omega, by omega, rfl⟩, show (!true) = false from rfl, wageofficeref27_Prove.j0, if_neg (by decide), Int.toNat_natCast]
    by_cases h4 : v < 0
    ·rw [if_pos h4, bad1, if_neg (by omega)]
    ·have hp2 := power2_eq (n : Int) (by omega) (k + 1) (by omega)
     rw [Int.toNat_natCast] at hp2
     rw [if_neg h4, hp2, Option.bind_some]
     by_cases h5 : v < ((2 ^ n : Nat) : Int)
     ·rw [decide_eq_false (by omega), if_pos ⟨by omega, h5⟩, wageofficeref27_Prove.j1, if_neg (by decide)]
      exact rl0_loop v r n seed hs (by omega) hr ⟨by omega, by omega⟩ (n - 1) 1 k (by omega) (by omega) (by omega)
     ·rw [decide_eq_true (by omega), bad1, if_neg (by omega)]
   ·rw [show nuB r = false by simpa using h3, show (!false) = true from rfl, bad, if_neg (by simp)]
/-! ### Verify -/
theorem Valid_eq (x : S) (k : Nat) (hk : 200 ≤ k) : wageofficeref27_Valid.f k x.f0 x.f1.f0 x.f1.f1 x.f2.f0 x.f2.f1 x.f3.f0 x.f3.f1 = some (validB x) := by
 unfold wageofficeref27_Valid.f validB
 rw [show wageofficeref27_Right.f x.f0 x.f1.f0 x.f1.f1 x.f2.f0 x.f2.f1 x.f3.f0 x.f3.f1 = some (rightB (bp x)) from rfl, Option.bind_some]
 by_cases hr : rightB (bp x) = true
 ·obtain ⟨e0, e1, e2, n0, n1, _, _⟩ := right_parts hr
  have r0 := elB_range (show elB x.f0 = true from e0)
  have r1 := elB_range (show elB x.f1.f0 = true from e1)
  have r2 := elB_range (show elB x.f1.f1 = true from e2)
  rw [if_pos hr, chal_eq _ _ _ (by omega) (by omega) (by omega) k hk, Option.bind_some, sum_raw _ _ (show nuB x.f2.f0 = true from n0) (show nuB x.f2.f1 = true from n1), hr]
  rfl
 ·rw [if_neg hr, show rightB (bp x) = false by simpa using hr]
  rfl
theorem prod_loop (l : List S) (hl : l.length ≤ 40) (hv : ∀ x ∈ l, 0 ≤ x.f0 ∧ x.f0 < 2147483579) : ∀ (d i k : Nat) (acc : Int), i + d = l.length → d + 80 < k → 0 ≤ acc ∧ acc < 2147483579 →
  wageofficeref27_Product.l0 k l acc (i : Int) = some (prodF (l.drop i) i acc) := by
 intro d
 induction d with
 | zero =>
  intro i k acc hi hk ha
  obtain ⟨k, rfl⟩ := rounds (show 0 < k by omega)
  rw [wageofficeref27_Product.l0, if_neg (by omega), List.drop_of_length_le (by omega)]
  rfl
 | succ d ih =>
  intro i k acc hi hk ha
  obtain ⟨k, rfl⟩ := rounds (show 0 < k by omega)
  have hlt : i < l.length := by omega
  have hp2 := power2_eq (i : Int) (by omega) k (by omega)
  rw [Int.toNat_natCast] at hp2
  have hx := hv _ (List.getElem_mem hlt)
  have hp : 2 ^ i ≤ 2 ^ 62 := Nat.pow_le_pow_right (by decide) (by omega)
  have hpi : ((2 ^ i : Nat) : Int) ≤ 4611686018427387904 := Int.le_trans (Int.ofNat_le.2 hp) (by decide)
  rw [wageofficeref27_Product.l0, if_pos (by omega), if_pos (by omega), rd_get l i hlt, List.drop_eq_getElem_cons hlt, hp2, Option.bind_some, Power_eq _ _ (Int.le_trans hpi (by decide)) k (by omega), Option.bind_some,
   powF_in ⟨hx.1, hx.2, Int.natCast_nonneg _⟩, times_eq acc _ ha (pwI_range _ _), Option.bind_some, wrap64_id (by omega) (by omega)]
  exact ih (i + 1) k _ (by omega) (by omega) (mulI_range _ _)
theorem rver_loop (c : Int) (l : List S) (hl : l.length ≤ 40) (n : Int) (hn : (l.length : Int) = n) : ∀ (d i k : Nat), i + d = l.length → d + 300 < k → (∀ x ∈ l.take i, validB x = true) →
  wageofficeref27_Verify.l0 k c n l (i : Int) = some ((l.drop i).all validB && (prodF l 0 1 == c)) := by
 intro d
 induction d with
 | zero =>
  intro i k hi hk hv
  obtain ⟨k, rfl⟩ := rounds (show 0 < k by omega)
  rw [List.take_of_length_le (by omega)] at hv
  have hv' : ∀ x ∈ l, 0 ≤ x.f0 ∧ x.f0 < 2147483579 := fun x hx => by
   have h := hv x hx
   unfold validB at h
   simp only [Bool.and_eq_true] at h
   exact elB_range (right_parts h.1).1
  have := prod_loop l hl hv' l.length 0 k 1 (by omega) (by omega) (by decide)
  rw [List.drop_zero] at this
  rw [wageofficeref27_Verify.l0, if_neg (by omega), wageofficeref27_Product.f, show (0 : Int) = ((0 : Nat) : Int) from rfl, this, Option.bind_some, List.drop_of_length_le (by omega)]
  rfl
 | succ d ih =>
  intro i k hi hk hv
  obtain ⟨k, rfl⟩ := rounds (show 0 < k by omega)
  have hlt : i < l.length := by omega
  rw [wageofficeref27_Verify.l0, if_pos (by omega), if_pos (by omega), if_pos (by omega), rd_get l i hlt, Valid_eq _ k (by omega), Option.bind_some, List.drop_eq_getElem_cons hlt, List.all_cons]
  by_cases h : validB l[i] = true
  ·rw [if_pos h, h, wrap64_id (by omega) (by omega)]
   refine ih (i + 1) k (by omega) (by omega) (fun x hx => ?_)
   rw [List.take_succ_eq_append_getElem hlt, List.mem_append] at hx
   rcases hx with hx | hx
   ·exact hv x hx
   ·rw [List.mem_singleton] at hx; rw [hx]; exact h
  ·rw [if_neg h, show validB l[i] = false by simpa using h]
   rfl
theorem rVerify_eq (c n : Int) (l : List S) (hl : l.length ≤ 40) (k : Nat) (hk : 400 ≤ k) : wageofficeref27_Verify.f k c n l = some (verB c n l) := by
 unfold wageofficeref27_Verify.f verB
 obtain ⟨k, rfl⟩ := rounds (show 0 < k by omega)
 have bad : wageofficeref27_Verify.j0 (k + 1) c n l true = some false := by rw [wageofficeref27_Verify.j0, if_pos rfl]
 by_cases h1 : n < 1
 ·rw [if_pos h1, bad, decide_eq_false (by omega)]; rfl
 ·by_cases h2 : n > 28
  ·rw [if_neg h1, if_pos h2, bad, decide_eq_false (by omega)]; rfl
  ·by_cases h3 : (l.length : Int) = n
   ·rw [if_neg h1, if_neg h2, show ((l.length : Int) != n) = false by simpa using h3, wageofficeref27_Verify.j0, if_neg (by decide), decide_eq_true (by omega)]
    exact rver_loop c l hl n h3 l.length 0 k (by omega) (by omega) (by simp)
   ·rw [if_neg h1, if_neg h2, show ((l.length : Int) != n) = true by simpa using h3, bad, decide_eq_false (by omega)]; rfl
theorem Same_loop (l : List S) (hl : l.length ≤ 1000) : ∀ (d i k : Nat), i + d = l.length → d < k → wageofficeref27_Same.l0 k l l (i : Int) = some true := by
 intro d
 induction d with
 | zero =>
  intro i k hi hk
  obtain ⟨k, rfl⟩ := rounds (show 0 < k by omega)
  rw [wageofficeref27_Same.l0, if_neg (by omega)]
 | succ d ih =>
  intro i k hi hk
  obtain ⟨k, rfl⟩ := rounds (show 0 < k by omega)
  rw [wageofficeref27_Same.l0, if_pos (by omega), if_pos (by omega), if_pos (by omega), if_pos rfl, if_pos rfl, if_pos rfl, if_pos rfl, if_pos rfl, if_pos rfl, if_pos rfl, wrap64_id (by omega) (by omega)]
  exact ih (i + 1) k (by omega) (by omega)
theorem Same_eq (l : List S) (hl : l.length ≤ 1000) (k : Nat) (hk : l.length < k) : wageofficeref27_Same.f k l l = some true := by
 unfold wageofficeref27_Same.f
 rw [if_pos rfl]
 exact Same_loop l hl l.length 0 k (by omega) hk
end Go.Proofs.YtnlgnmlobklobaaDoor.RpP
