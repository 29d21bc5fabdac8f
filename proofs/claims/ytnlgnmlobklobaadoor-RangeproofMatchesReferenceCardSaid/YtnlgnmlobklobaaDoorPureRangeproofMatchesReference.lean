/- RangeproofMatchesReference, plain: Prove, Verify and Extract return what the reference's do. -/
import Derived.Test.YtnlgnmlobklobaaDoorRpX
import Derived.Test.YtnlgnmlobklobaaDoorRpR
import Derived.Test.YtnlgnmlobklobaaDoorPAllx9
import Derived.Test.YtnlgnmlobklobaaDoorOp
set_option linter.unusedVariables false
set_option linter.unusedSimpArgs false
namespace Go.Proofs.YtnlgnmlobklobaaDoor.PureRangeproofMatchesReference
open Go.RowKit Go.Proofs.YtnlgnmlobklobaaDoor Go.Proofs.YtnlgnmlobklobaaDoor.PAll Go.Proofs.YtnlgnmlobklobaaDoorW.PrintWords Go.Proofs.YtnlgnmlobklobaaDoorW.PrintMore
open Go.Proofs.YtnlgnmlobklobaaDoor.Stub Go.Proofs.YtnlgnmlobklobaaDoor.Com Go.Proofs.YtnlgnmlobklobaaDoor.Hash Go.Proofs.YtnlgnmlobklobaaDoor.RfL Go.Proofs.YtnlgnmlobklobaaDoor.Grp Go.Proofs.YtnlgnmlobklobaaDoor.RpP
theorem proveP_length (v r n : Int) (seed : ByteArray) : (proveP v r n seed).1.length ≤ 28 := by
  unfold proveP
  split
  · split
    · rw [prf_length]; omega
    · simp
  · simp
theorem holds (a0 : Int) (a1 : Int) (a2 : Int) (a3 : ByteArray) (a4 : Int) (z5 : List (S25)) (x6 : S25) (x7 : S25) (w0 : (Lit.int .i64 a0).wf = true) (w1 : (Lit.int .i64 a1).wf = true) (w2 : (Lit.int .i64 a2).wf = true) (w3 : a3.size ≤ 140737488351232) (w4 : (Lit.int .i64 a4).wf = true) (hw5 : ∀ y ∈ z5, Op.wf25 y) (hw6 : Op.wf25 x6) (hw7 : Op.wf25 x7) :
    ∃ k, wageofficelaw27_RangeproofMatchesReference.f k a0 a1 a2 a3 a4 z5 x6.f0 x6.f1.f0 x6.f1.f1 x6.f2.f0 x6.f2.f1 x6.f3.f0 x6.f3.f1 x7.f0 x7.f1.f0 x7.f1.f1 x7.f2.f0 x7.f2.f1 x7.f3.f0 x7.f3.f1 = some true := by
  have v0 := wf_i64 w0
  refine ⟨2000, ?_⟩
  unfold wageofficelaw27_RangeproofMatchesReference.f
  rw [head_eq 2000 (by decide), Option.bind_some]
  by_cases hs : (a3.size : Int) > 60
  · rw [if_pos hs, wageofficelaw27_RangeproofMatchesReference.j0, if_pos rfl]
  · rw [if_neg hs, wageofficelaw27_RangeproofMatchesReference.j0]
    by_cases hl : (z5.length : Int) > 40
    · rw [decide_eq_true hl, if_pos rfl]
    · rw [decide_eq_false hl, if_neg (by decide), Prove_eq a0 a1 a2 a3 (by omega) v0 _ (by decide), Option.bind_some, rProve_eq a0 a1 a2 a3 (by omega) v0 _ (by omega), Option.bind_some]
      have hpl := proveP_length a0 a1 a2 a3
      generalize proveP a0 a1 a2 a3 = X at *
      unfold rangeproof_Extract.f wageofficeref27_Extract.f
      generalize extrP x6.f0 x6.f1.f0 x6.f1.f1 x6.f2.f0 x6.f2.f1 x6.f3.f0 x6.f3.f1 x7.f0 x7.f1.f0 x7.f1.f1 x7.f2.f0 x7.f2.f1 x7.f3.f0 x7.f3.f1 = Y
      rw [Option.bind_some, Option.bind_some, if_pos rfl, if_pos rfl, Same_eq X.1 (by omega) _ (by omega), Option.bind_some, if_pos rfl, Verify_eq a4 a2 z5 (by omega) _ (by decide), Option.bind_some, rVerify_eq a4 a2 z5 (by omega) _ (by decide), Option.bind_some]
      rw [if_pos (by simp), if_pos rfl, if_pos rfl]
      simp
end Go.Proofs.YtnlgnmlobklobaaDoor.PureRangeproofMatchesReference
