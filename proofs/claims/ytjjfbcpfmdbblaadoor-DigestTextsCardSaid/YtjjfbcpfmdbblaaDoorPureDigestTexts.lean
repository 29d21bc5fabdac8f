/- The law DigestTexts, said of the printed functions: texts have 16 digits, are parsed to their digests and ordered like them; what is parsed is the text of the result. -/
import Derived.Test.YtjjfbcpfmdbblaaDoorPureRef23
import Derived.Test.YtjjfbcpfmdbblaaDoorDigText
import Derived.OpenShut
namespace Go.Proofs.YtjjfbcpfmdbblaaDoor.PureDigestTexts
open Go.RowKit Go.Proofs.YtjjfbcpfmdbblaaDoor Go.Proofs.YtjjfbcpfmdbblaaDoor.PAll Go.Proofs.YtjjfbcpfmdbblaaDoorW.PrintWords Go.Proofs.YtjjfbcpfmdbblaaDoorW.PrintMore Go.Proofs.YtjjfbcpfmdbblaaDoor.Stub
open Go.Proofs.YtjjfbcpfmdbblaaDoor.Dig Go.Proofs.YtjjfbcpfmdbblaaDoor.PureRef23

theorem text_f (a : Int) (h : 0 ≤ a ∧ a ≤ 18446744073709551615) : digest_Text.f a = some (Dig.text a) := by
  unfold digest_Text.f
  rw [if_pos (by simpa [u64ok] using h)]
theorem end_eq (s : ByteArray) (hs : s.size ≤ 140737488351232) : wageofficelaw23_DigestTexts.j0 1 s true = some true := by
  simp only [wageofficelaw23_DigestTexts.j0]
  have m1 := mn_range (s.size : Int) 40 (by omega) (by omega)
  generalize mn (s.size : Int) 40 = n at *
  rw [if_pos (by omega), if_pos (by omega)]
  generalize s.extract 0 n.toNat = x
  rw [show digest_Parse.f x = some (Dig.parse x) from rfl, Option.bind_some]
  by_cases h : (Dig.parse x).2 = 0
  · obtain ⟨p1, p2, p3⟩ := parse_back x h
    rw [if_pos h, if_true, text_f _ ⟨p2, p3⟩, Option.bind_some, ByteArray.toList_eq, ByteArray.toList_eq, p1, beq_self_eq_true]
  · rw [if_neg h, if_true, parse_err x h]
    rfl
theorem holds (a0 a1 : Int) (a2 : ByteArray) (w0 : (Lit.int .u64 a0).wf = true) (w1 : (Lit.int .u64 a1).wf = true) (w2 : a2.size ≤ 140737488351232) :
    ∃ k, wageofficelaw23_DigestTexts.f k a0 a1 a2 = some true := by
  have b0 := bounds_u64 w0
  have b1 := bounds_u64 w1
  have main : wageofficelaw23_DigestTexts.f 2 a0 a1 a2 = wageofficelaw23_DigestTexts.j0 2 a2 true := by
    unfold wageofficelaw23_DigestTexts.f
    rw [head_eq 2 (by decide), Option.bind_some, text_f a0 b0, Option.bind_some, text_f a1 b1, Option.bind_some,
      show digest_Parse.f (Dig.text a0) = some (Dig.parse (Dig.text a0)) from rfl, Option.bind_some, parse_text a0 b0.1 b0.2]
    rw [if_pos rfl, if_pos (by rw [text_size]; rfl), if_pos rfl, if_pos rfl, ByteArray.toList_eq, ByteArray.toList_eq, text_less a0 a1 b0.1 b0.2 b1.1 b1.2, beq_self_eq_true, if_pos rfl]
    congr 1
    rw [beq_iff_eq, Bool.eq_iff_iff, beq_iff_eq, beq_iff_eq]
    exact text_inj a0 a1 b0.1 b0.2 b1.1 b1.2
  refine ⟨2, main.trans ?_⟩
  exact (wageofficelaw23_DigestTexts.mono_l 1) _ _ _ (end_eq a2 w2)
end Go.Proofs.YtjjfbcpfmdbblaaDoor.PureDigestTexts
