/- RangeproofExtract, plain: what Extract returns opens the commitment. -/
import Derived.Test.YtnlgnmlobklobaaDoorRpX
import Derived.Test.YtnlgnmlobklobaaDoorPAllx10
import Derived.Test.YtnlgnmlobklobaaDoorOp
set_option linter.unusedVariables false
set_option linter.unusedSimpArgs false
namespace Go.Proofs.YtnlgnmlobklobaaDoor.PureRangeproofExtract
open Go.RowKit Go.Proofs.YtnlgnmlobklobaaDoor Go.Proofs.YtnlgnmlobklobaaDoor.PAll Go.Proofs.YtnlgnmlobklobaaDoorW.PrintWords Go.Proofs.YtnlgnmlobklobaaDoorW.PrintMore
open Go.Proofs.YtnlgnmlobklobaaDoor.Stub Go.Proofs.YtnlgnmlobklobaaDoor.Com Go.Proofs.YtnlgnmlobklobaaDoor.Hash Go.Proofs.YtnlgnmlobklobaaDoor.RfL Go.Proofs.YtnlgnmlobklobaaDoor.Grp Go.Proofs.YtnlgnmlobklobaaDoor.RpP
theorem open_of (c i r : Int) (h : comI i r = (c, 0)) : commitment_Open.f c i r = some true := by
  unfold commitment_Open.f
  rw [show commitment_Commit.f i r = some (comI i r) from rfl, h, Option.bind_some, if_pos rfl]
  simp
theorem div_four (c : Int) (hc : ElI c) (r : Int) (hr : 0 ≤ r ∧ r < 1073741789) (h : mulI c (invI 4) = pwI 9 r) : comI 1 r = (c, 0) := by
  rw [comI_eq 1 r (by decide) hr]
  obtain ⟨n, rfl, hn⟩ := hc
  obtain ⟨s, rfl⟩ : ∃ s : Nat, r = s := ⟨r.toNat, by omega⟩
  rw [show (4 : Int) = ((4 : Nat) : Int) from rfl, invI_nat, mulI_nat, show (9 : Int) = ((9 : Nat) : Int) from rfl, pwI_nat] at h
  have h := Int.ofNat.inj h
  have e : com 1 s = n := by
    unfold com
    rw [pw_one (by decide), ← h, mul_comm' n, ← mul_assoc', mul_comm' 4, El.four.inv_mul, one_mul' hn.1]
  rw [show (1 : Int).toNat = 1 from rfl, Int.toNat_natCast, e]
theorem holds (x0 : S25) (x1 : S25) (hw0 : Op.wf25 x0) (hw1 : Op.wf25 x1) :
    ∃ k, wageofficelaw27_RangeproofExtract.f k x0.f0 x0.f1.f0 x0.f1.f1 x0.f2.f0 x0.f2.f1 x0.f3.f0 x0.f3.f1 x1.f0 x1.f1.f0 x1.f1.f1 x1.f2.f0 x1.f2.f1 x1.f3.f0 x1.f3.f1 = some true := by
  clear hw0 hw1
  obtain ⟨c, ⟨f0, f1⟩, ⟨c0, c1⟩, ⟨r0, r1⟩⟩ := x0
  obtain ⟨x, ⟨g0, g1⟩, ⟨d0, d1⟩, ⟨s0, s1⟩⟩ := x1
  dsimp only
  refine ⟨1000, ?_⟩
  unfold wageofficelaw27_RangeproofExtract.f
  rw [head_eq 1000 (by decide), Option.bind_some, show rangeproof_Extract.f c f0 f1 c0 c1 r0 r1 x g0 g1 d0 d1 s0 s1 = some (extrP c f0 f1 c0 c1 r0 r1 x g0 g1 d0 d1 s0 s1) from rfl, Option.bind_some]
  unfold extrP
  by_cases h : c = x ∧ f0 = g0 ∧ f1 = g1 ∧ rightB ⟨c, f0, f1, c0, c1, r0, r1⟩ = true ∧ rightB ⟨x, g0, g1, d0, d1, s0, s1⟩ = true
  · rw [if_pos h]
    obtain ⟨rfl, rfl, rfl, hA, hB⟩ := h
    have hc : ElI c := (elI_iff c).1 (right_parts hA).1
    unfold rightB at hA hB
    simp only [Bool.and_eq_true] at hA hB
    by_cases h0 : c0 ≠ d0
    · rw [if_pos h0]
      have e := side_open hc hA.2.1 hB.2.1 h0
      have hr : 0 ≤ (r0 - s0 + 1073741789) % 1073741789 * pq 1073741787 ((c0 - d0 + 1073741789) % 1073741789) % 1073741789 ∧ (r0 - s0 + 1073741789) % 1073741789 * pq 1073741787 ((c0 - d0 + 1073741789) % 1073741789) % 1073741789 < 1073741789 := ⟨Int.emod_nonneg _ (by decide), Int.emod_lt_of_pos _ (by decide)⟩
      generalize (r0 - s0 + 1073741789) % 1073741789 * pq 1073741787 ((c0 - d0 + 1073741789) % 1073741789) % 1073741789 = r at *
      have ho : comI 0 r = (c, 0) := by
        have h1 := com0 r hr
        rw [← e] at h1
        have h2 := comI_eq 0 r (by decide) hr
        rw [h2] at h1 ⊢
        rw [show ((com (0 : Int).toNat r.toNat : Nat) : Int) = c from h1]
      rw [if_pos rfl, if_pos rfl, if_pos rfl, if_pos rfl, open_of c 0 r ho]
      rfl
    · rw [if_neg h0]
      by_cases h1 : c1 ≠ d1
      · rw [if_pos h1]
        have e := side_open (hc.mul ElI.four.inv) hA.2.2 hB.2.2 h1
        have hr : 0 ≤ (r1 - s1 + 1073741789) % 1073741789 * pq 1073741787 ((c1 - d1 + 1073741789) % 1073741789) % 1073741789 ∧ (r1 - s1 + 1073741789) % 1073741789 * pq 1073741787 ((c1 - d1 + 1073741789) % 1073741789) % 1073741789 < 1073741789 := ⟨Int.emod_nonneg _ (by decide), Int.emod_lt_of_pos _ (by decide)⟩
        generalize (r1 - s1 + 1073741789) % 1073741789 * pq 1073741787 ((c1 - d1 + 1073741789) % 1073741789) % 1073741789 = r at *
        dsimp only
        rw [if_pos rfl, if_pos rfl, if_neg (by decide), if_pos rfl, if_pos rfl, open_of c 1 r (div_four c hc r hr e)]
        rfl
      · rw [if_neg h1]
        rfl
  · rw [if_neg h]
    rfl
end Go.Proofs.YtnlgnmlobklobaaDoor.PureRangeproofExtract
