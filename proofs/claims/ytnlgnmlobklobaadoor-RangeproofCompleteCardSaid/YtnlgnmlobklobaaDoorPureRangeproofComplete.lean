/- RangeproofComplete, plain: every number in the range has a proof that is valid for its commitment, and no other number has one. -/
import Derived.Test.YtnlgnmlobklobaaDoorRpX
import Derived.Test.YtnlgnmlobklobaaDoorPAllx13
set_option linter.unusedVariables false
set_option linter.unusedSimpArgs false
namespace Go.Proofs.YtnlgnmlobklobaaDoor.PureRangeproofComplete
open Go.RowKit Go.Proofs.YtnlgnmlobklobaaDoor Go.Proofs.YtnlgnmlobklobaaDoor.PAll Go.Proofs.YtnlgnmlobklobaaDoorW.PrintWords Go.Proofs.YtnlgnmlobklobaaDoorW.PrintMore
open Go.Proofs.YtnlgnmlobklobaaDoor.Stub Go.Proofs.YtnlgnmlobklobaaDoor.Com Go.Proofs.YtnlgnmlobklobaaDoor.Hash Go.Proofs.YtnlgnmlobklobaaDoor.RfL Go.Proofs.YtnlgnmlobklobaaDoor.Grp Go.Proofs.YtnlgnmlobklobaaDoor.RpP
theorem bits_raw (a : Int) (h : 0 ≤ a ∧ a ≤ 255) : wrap64 ((Int.tmod (wrap64 a) 28) + 1) = ((a % 28 + 1).toNat : Int) ∧ 1 ≤ (a % 28 + 1).toNat ∧ (a % 28 + 1).toNat ≤ 28 := by
  rw [wrap64_id (x := a) (by omega) (by omega), Int.tmod_eq_emod_of_nonneg h.1, wrap64_id (by omega) (by omega)]
  omega
theorem blind_raw (a : Int) (h : 0 ≤ a ∧ a ≤ 4294967295) : Int.tmod (wrap64 a) 1073741789 = a % 1073741789 := by
  rw [wrap64_id (by omega) (by omega), Int.tmod_eq_emod_of_nonneg h.1]
theorem holds (a0 : Int) (a1 : Int) (a2 : Int) (a3 : ByteArray) (w0 : (Lit.int .i64 a0).wf = true) (w1 : (Lit.int .u32 a1).wf = true) (w2 : (Lit.int .u8 a2).wf = true) (w3 : a3.size ≤ 140737488351232) : ∃ k, wageofficelaw27_RangeproofComplete.f k a0 a1 a2 a3 = some true := by
  have v0 := wf_i64 w0
  have v1 := wf_u32 w1
  have v2 := wf_u8 w2
  refine ⟨1000, ?_⟩
  unfold wageofficelaw27_RangeproofComplete.f
  rw [head_eq 1000 (by decide), Option.bind_some]
  by_cases hs : (a3.size : Int) > 60
  · rw [if_pos hs]
  · rw [if_neg hs]
    obtain ⟨hb, hn1, hn2⟩ := bits_raw a2 v2
    rw [hb, blind_raw a1 v1]
    have hr : 0 ≤ a1 % 1073741789 ∧ a1 % 1073741789 < 1073741789 := by omega
    generalize a1 % 1073741789 = r at *
    generalize (a2 % 28 + 1).toNat = n at *
    have hp := pow_int n (by omega)
    rw [Prove_eq a0 r n a3 (by omega) (by omega) 1000 (by decide), Option.bind_some]
    have hpr : proveP a0 r n a3 = if 0 ≤ a0 ∧ a0 < ((2 ^ n : Nat) : Int) then (prf a0 r n a3, 0) else ([], 3) := by
      unfold proveP
      rw [if_pos ⟨by omega, by omega, decide_eq_true hr⟩, Int.toNat_natCast]
    rw [hpr]
    by_cases hv0 : a0 < 0
    · rw [if_pos hv0, if_neg (show ¬ (0 ≤ a0 ∧ a0 < ((2 ^ n : Nat) : Int)) by omega), wageofficelaw27_RangeproofComplete.j0, if_pos rfl, if_pos rfl, if_pos rfl]
      rfl
    · rw [if_neg hv0, if_pos (by omega), shl1 n (by omega)]
      by_cases hv : a0 < ((2 ^ n : Nat) : Int)
      · have hp28 : ((2 ^ n : Nat) : Int) ≤ 268435456 := Int.le_trans (Int.ofNat_le.2 (Nat.pow_le_pow_right (by decide) hn2)) (by decide)
        have hc := complete a0 r n a3 hn1 hn2 hr ⟨by omega, hv⟩
        have e := comI_eq a0 r (by omega) hr
        rw [if_pos (show 0 ≤ a0 ∧ a0 < ((2 ^ n : Nat) : Int) from ⟨by omega, hv⟩), decide_eq_false (by omega), wageofficelaw27_RangeproofComplete.j0, if_neg (by decide)]
        rw [show commitment_Commit.f a0 r = some (comI a0 r) from rfl, Option.bind_some, if_pos rfl, if_pos rfl, if_pos (by rw [e]), Verify_eq _ _ _ (by rw [prf_length]; omega) _ (by decide), hc]
        rfl
      · rw [if_neg (show ¬ (0 ≤ a0 ∧ a0 < ((2 ^ n : Nat) : Int)) by omega), decide_eq_true (by omega), wageofficelaw27_RangeproofComplete.j0, if_pos rfl, if_pos rfl, if_pos rfl]
        rfl
end Go.Proofs.YtnlgnmlobklobaaDoor.PureRangeproofComplete
