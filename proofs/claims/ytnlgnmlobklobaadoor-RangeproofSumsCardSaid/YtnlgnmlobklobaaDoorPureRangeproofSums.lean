/- RangeproofSums, plain: the bits' commitments of two proofs, multiplied, have as their product with powers of 2 the commitment to the sums. -/
import Derived.Test.YtnlgnmlobklobaaDoorRpX
import Derived.Test.YtnlgnmlobklobaaDoorPAllx11
set_option linter.unusedVariables false
set_option linter.unusedSimpArgs false
namespace Go.Proofs.YtnlgnmlobklobaaDoor.PureRangeproofSums
open Go.RowKit Go.Proofs.YtnlgnmlobklobaaDoor Go.Proofs.YtnlgnmlobklobaaDoor.PAll Go.Proofs.YtnlgnmlobklobaaDoorW.PrintWords Go.Proofs.YtnlgnmlobklobaaDoorW.PrintMore
open Go.Proofs.YtnlgnmlobklobaaDoor.Stub Go.Proofs.YtnlgnmlobklobaaDoor.Com Go.Proofs.YtnlgnmlobklobaaDoor.Hash Go.Proofs.YtnlgnmlobklobaaDoor.RfL Go.Proofs.YtnlgnmlobklobaaDoor.Grp Go.Proofs.YtnlgnmlobklobaaDoor.RpP
theorem bits_raw (a : Int) (h : 0 ≤ a ∧ a ≤ 255) : wrap64 ((Int.tmod (wrap64 a) 28) + 1) = ((a % 28 + 1).toNat : Int) ∧ 1 ≤ (a % 28 + 1).toNat ∧ (a % 28 + 1).toNat ≤ 28 := by
  rw [wrap64_id (x := a) (by omega) (by omega), Int.tmod_eq_emod_of_nonneg h.1, wrap64_id (by omega) (by omega)]
  omega
theorem mod_raw (a m : Int) (h : 0 ≤ a ∧ a ≤ 4294967295) : Int.tmod (wrap64 a) m = a % m := by
  rw [wrap64_id (by omega) (by omega), Int.tmod_eq_emod_of_nonneg h.1]
theorem el_f (a : Int) (h : ElI a) : commitment_isElement.f a = some true := by
  have hr := h.range
  unfold commitment_isElement.f commitment_Power.f
  rw [if_pos hr.1, if_pos (by decide), Option.bind_some, powF_in ⟨by omega, hr.2, by decide⟩]
  obtain ⟨n, rfl, hn⟩ := h
  rw [show pwI (n : Int) 1073741789 = ((pw n 1073741789 : Nat) : Int) from rfl, hn.2]
  rfl
theorem add_f (a b : Int) (h : ElI a) (h' : ElI b) : commitment_Add.f a b = some (mulI a b, 0) := by
  have ha := h.range
  have hb := h'.range
  unfold commitment_Add.f
  rw [el_f a h, Option.bind_some, if_pos rfl, el_f b h', Option.bind_some, if_pos rfl, times_raw a b ⟨by omega, ha.2⟩ ⟨by omega, hb.2⟩]
theorem low_bits (v : Int) (hv : 0 ≤ v) (m : Nat) : (v % ((2 ^ m : Nat) : Int)).toNat + (v / ((2 ^ m : Nat) : Int) % 2).toNat * 2 ^ m = (v % ((2 ^ (m + 1) : Nat) : Int)).toNat := by
  obtain ⟨u, rfl⟩ : ∃ u : Nat, v = u := ⟨v.toNat, by omega⟩
  rw [← Int.natCast_emod, ← Int.natCast_ediv, ← Int.natCast_emod, show ((u / 2 ^ m : Nat) : Int) % 2 = ((u / 2 ^ m % 2 : Nat) : Int) from rfl, Int.toNat_natCast, Int.toNat_natCast, Int.toNat_natCast]
  rw [Nat.pow_succ, Nat.mod_mul, Nat.mul_comm (2 ^ m)]
theorem loop (x u y v : Int) (n : Nat) (s t : ByteArray) (hn : n ≤ 28) (h1 : 1 ≤ n) (hu : 0 ≤ u ∧ u < 1073741789) (hv : 0 ≤ v ∧ v < 1073741789) (hx : 0 ≤ x ∧ x < ((2 ^ n : Nat) : Int)) (hy : 0 ≤ y ∧ y < ((2 ^ n : Nat) : Int)) : ∀ (d j k : Nat), j + d = n → d < k →
    wageofficelaw27_RangeproofSums.l0 k true (n : Int) x y u v (prf x u n s) (prf y v n t) ((com ((x % ((2 ^ j : Nat) : Int)).toNat + (y % ((2 ^ j : Nat) : Int)).toNat) (expS s u n j + expS t v n j) : Nat) : Int) (j : Int) = some true := by
  have hp28 : ((2 ^ n : Nat) : Int) ≤ 268435456 := Int.le_trans (Int.ofNat_le.2 (Nat.pow_le_pow_right (by decide) hn)) (by decide)
  intro d
  induction d with
  | zero =>
    intro j k hj hk
    obtain ⟨k, rfl⟩ := rounds (show 0 < k by omega)
    obtain rfl : j = n := by omega
    have e1 := exp_all s u hu j h1
    have e2 := exp_all t v hv j h1
    rw [wageofficelaw27_RangeproofSums.l0, if_neg (by omega), wrap64_id (x := x + y) (by omega) (by omega), wrap64_id (x := u + v) (by omega) (by omega), Int.tmod_eq_emod_of_nonneg (by omega)]
    rw [show commitment_Commit.f (x + y) ((u + v) % 1073741789) = some (comI (x + y) ((u + v) % 1073741789)) from rfl, Option.bind_some, if_pos rfl, comI_eq _ _ (by omega) (by omega)]
    dsimp only
    rw [if_pos rfl, Int.emod_eq_of_lt hx.1 hx.2, Int.emod_eq_of_lt hy.1 hy.2]
    have e3 : com (x.toNat + y.toNat) (expS s u j j + expS t v j j) = com (x + y).toNat ((u + v) % 1073741789).toNat := by
      rw [show (x + y).toNat = x.toNat + y.toNat by omega]
      exact com_exp (by omega)
    rw [e3]
    simp
  | succ d ih =>
    intro j k hj hk
    obtain ⟨k, rfl⟩ := rounds (show 0 < k by omega)
    have hlt : j < n := by omega
    obtain ⟨a, ha, hca⟩ := prf_c x u n s hu j hlt
    obtain ⟨b, hb, hcb⟩ := prf_c y v n t hv j hlt
    have hla : j < (prf x u n s).length := by rw [prf_length]; omega
    have hlb : j < (prf y v n t).length := by rw [prf_length]; omega
    rw [List.getElem?_eq_getElem hla] at ha
    rw [List.getElem?_eq_getElem hlb] at hb
    have ha := Option.some.inj ha
    have hb := Option.some.inj hb
    have hea : ElI a.f0 := by rw [hca]; exact ⟨_, rfl, com_el _ _⟩
    have heb : ElI b.f0 := by rw [hcb]; exact ⟨_, rfl, com_el _ _⟩
    have hm := hea.mul heb
    have hmr := hm.range
    have hto := to_eq (mulI a.f0 b.f0) ⟨by omega, hmr.2⟩ j (by omega)
    have hpow : commitment_Power.f (mulI a.f0 b.f0) (shl .i64 1 (j : Int)) = some (pwI (mulI a.f0 b.f0) ((2 ^ j : Nat) : Int)) := by
      unfold rangeproof_element_to.f at hto
      cases hq : commitment_Power.f (mulI a.f0 b.f0) (shl .i64 1 (j : Int)) with
      | none => rw [hq] at hto; cases hto
      | some z => rw [hq] at hto; exact hto
    have hcr : ∀ p q : Nat, 0 ≤ ((com p q : Nat) : Int) ∧ ((com p q : Nat) : Int) < 2147483579 := fun p q => ⟨Int.natCast_nonneg _, by have := (com_el p q).1; omega⟩
    rw [wageofficelaw27_RangeproofSums.l0, if_pos (by omega), if_pos (by omega), prf_length, if_pos (by omega), prf_length, if_pos (by omega), rd_get _ j hla, rd_get _ j hlb, ha, hb, add_f _ _ hea heb, Option.bind_some]
    dsimp only
    rw [if_pos rfl, hpow, Option.bind_some, times_raw _ _ (hcr _ _) (pwI_range _ _), wrap64_id (x := (j : Int) + 1) (by omega) (by omega)]
    have key : mulI ((com ((x % ((2 ^ j : Nat) : Int)).toNat + (y % ((2 ^ j : Nat) : Int)).toNat) (expS s u n j + expS t v n j) : Nat) : Int) (pwI (mulI a.f0 b.f0) ((2 ^ j : Nat) : Int)) =
        ((com ((x % ((2 ^ (j + 1) : Nat) : Int)).toNat + (y % ((2 ^ (j + 1) : Nat) : Int)).toNat) (expS s u n (j + 1) + expS t v n (j + 1)) : Nat) : Int) := by
      rw [hca, hcb, mulI_nat, com_mul, pwI_nat, mulI_nat, com_pow]
      rw [show ∀ p q : Nat, pw 4 p * pw 9 q % 2147483579 = com p q from fun _ _ => rfl, com_mul]
      have l1 := low_bits x hx.1 j
      have l2 := low_bits y hy.1 j
      congr 2
      · rw [Nat.add_mul]; omega
      · rw [expS, expS, Nat.add_mul]; omega
    rw [key]
    exact ih (j + 1) k (by omega) (by omega)
theorem holds (a0 : Int) (a1 : Int) (a2 : Int) (a3 : Int) (a4 : Int) (a5 : ByteArray) (a6 : ByteArray) (w0 : (Lit.int .u32 a0).wf = true) (w1 : (Lit.int .u32 a1).wf = true) (w2 : (Lit.int .u32 a2).wf = true) (w3 : (Lit.int .u32 a3).wf = true) (w4 : (Lit.int .u8 a4).wf = true) (w5 : a5.size ≤ 140737488351232) (w6 : a6.size ≤ 140737488351232) :
    ∃ k, wageofficelaw27_RangeproofSums.f k a0 a1 a2 a3 a4 a5 a6 = some true := by
  have v0 := wf_u32 w0
  have v1 := wf_u32 w1
  have v2 := wf_u32 w2
  have v3 := wf_u32 w3
  have v4 := wf_u8 w4
  refine ⟨1000, ?_⟩
  unfold wageofficelaw27_RangeproofSums.f
  rw [head_eq 1000 (by decide), Option.bind_some]
  by_cases hs : (a5.size : Int) > 60
  · rw [if_pos hs, wageofficelaw27_RangeproofSums.j0, if_pos rfl]
  · rw [if_neg hs]
    by_cases ht : (a6.size : Int) > 60
    · rw [decide_eq_true ht, wageofficelaw27_RangeproofSums.j0, if_pos rfl]
    · obtain ⟨hb, hn1, hn2⟩ := bits_raw a4 v4
      rw [decide_eq_false ht, wageofficelaw27_RangeproofSums.j0, if_neg (by decide), hb]
      generalize (a4 % 28 + 1).toNat = n at *
      have hp := pow_int n (by omega)
      rw [if_pos (by omega), shl1 n (by omega), if_neg (by omega), mod_raw a0 _ v0, mod_raw a1 _ v1, mod_raw a2 _ v2, mod_raw a3 _ v3]
      have hx : 0 ≤ a0 % ((2 ^ n : Nat) : Int) ∧ a0 % ((2 ^ n : Nat) : Int) < ((2 ^ n : Nat) : Int) := ⟨Int.emod_nonneg _ (by omega), Int.emod_lt_of_pos _ hp.1⟩
      have hy : 0 ≤ a2 % ((2 ^ n : Nat) : Int) ∧ a2 % ((2 ^ n : Nat) : Int) < ((2 ^ n : Nat) : Int) := ⟨Int.emod_nonneg _ (by omega), Int.emod_lt_of_pos _ hp.1⟩
      have hu : 0 ≤ a1 % 1073741789 ∧ a1 % 1073741789 < 1073741789 := by omega
      have hv : 0 ≤ a3 % 1073741789 ∧ a3 % 1073741789 < 1073741789 := by omega
      generalize a0 % ((2 ^ n : Nat) : Int) = x at *
      generalize a2 % ((2 ^ n : Nat) : Int) = y at *
      generalize a1 % 1073741789 = u at *
      generalize a3 % 1073741789 = v at *
      have hpr : ∀ (z r : Int) (seed : ByteArray), 0 ≤ z ∧ z < ((2 ^ n : Nat) : Int) → 0 ≤ r ∧ r < 1073741789 → proveP z r n seed = (prf z r n seed, 0) := fun z r seed hz hr => by
        unfold proveP
        rw [if_pos ⟨by omega, by omega, decide_eq_true hr⟩, Int.toNat_natCast, if_pos hz]
      rw [Prove_eq x u n a5 (by omega) (by omega) _ (by decide), Option.bind_some, hpr x u a5 hx hu, Prove_eq y v n a6 (by omega) (by omega) _ (by decide), Option.bind_some, hpr y v a6 hy hv]
      dsimp only
      rw [if_pos rfl, if_pos rfl, prf_length, prf_length, if_pos rfl, show ((n : Int) != (n : Int)) = false by simp, wageofficelaw27_RangeproofSums.j1, if_neg (by decide)]
      have := loop x u y v n a5 a6 hn2 hn1 hu hv hx hy n 0 998 (by omega) (by omega)
      rw [Nat.pow_zero, show x % ((1 : Nat) : Int) = 0 by omega, show y % ((1 : Nat) : Int) = 0 by omega] at this
      exact this
end Go.Proofs.YtnlgnmlobklobaaDoor.PureRangeproofSums
