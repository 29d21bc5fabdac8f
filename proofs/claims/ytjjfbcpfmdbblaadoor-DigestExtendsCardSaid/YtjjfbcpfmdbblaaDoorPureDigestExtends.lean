/- The law DigestExtends, said of the printed functions: strings of one length have one digest exactly if they have behind a common tail. -/
import Derived.Test.YtjjfbcpfmdbblaaDoorPureRef23
import Derived.OpenShut
namespace Go.Proofs.YtjjfbcpfmdbblaaDoor.PureDigestExtends
open Go.RowKit Go.Proofs.YtjjfbcpfmdbblaaDoor Go.Proofs.YtjjfbcpfmdbblaaDoor.PAll Go.Proofs.YtjjfbcpfmdbblaaDoorW.PrintWords Go.Proofs.YtjjfbcpfmdbblaaDoorW.PrintMore Go.Proofs.YtjjfbcpfmdbblaaDoor.Stub
open Go.Proofs.YtjjfbcpfmdbblaaDoor.Dig Go.Proofs.YtjjfbcpfmdbblaaDoor.PureRef23

theorem holds (a0 a1 a2 : ByteArray) (w0 : a0.size ≤ 140737488351232) (w1 : a1.size ≤ 140737488351232) (w2 : a2.size ≤ 140737488351232) :
    ∃ k, wageofficelaw23_DigestExtends.f k a0 a1 a2 = some true := by
  refine ⟨2, ?_⟩
  unfold wageofficelaw23_DigestExtends.f
  rw [head_eq 2 (by decide)]
  simp only [Option.bind_some]
  have m1 := mn_le (a0.size : Int) (a1.size : Int)
  have m2 := mn_le (mn (a0.size : Int) (a1.size : Int)) 2000
  have m3 := mn_le (a2.size : Int) 2000
  generalize mn (mn (a0.size : Int) (a1.size : Int)) 2000 = n at *
  generalize mn (a2.size : Int) 2000 = m at *
  rw [if_pos (by omega), if_pos (by omega), if_pos (by omega), if_pos (by omega), if_pos (by omega), if_true]
  have s0 : (a0.extract 0 n.toNat).size = n.toNat := by rw [ext_size]; omega
  have s1 : (a1.extract 0 n.toNat).size = n.toNat := by rw [ext_size]; omega
  have s2 : (a2.extract 0 m.toNat).size = m.toNat := by rw [ext_size]; omega
  generalize a0.extract 0 n.toNat = x at *
  generalize a1.extract 0 n.toNat = y at *
  generalize a2.extract 0 m.toNat = z at *
  rw [sum_f x (by omega)]; simp only [Option.bind_some]
  rw [sum_f y (by omega)]; simp only [Option.bind_some]
  rw [if_pos (by omega), sum_f (x ++ z) (by rw [ByteArray.size_append]; omega)]; simp only [Option.bind_some]
  rw [if_pos (by omega), sum_f (y ++ z) (by rw [ByteArray.size_append]; omega)]; simp only [Option.bind_some]
  have hl : x.data.toList.length = y.data.toList.length := by
    have e1 : x.data.toList.length = x.size := by simp
    have e2 : y.data.toList.length = y.size := by simp
    omega
  have key : Dig.sum (x ++ z) = Dig.sum (y ++ z) ↔ Dig.sum x = Dig.sum y := by
    rw [sum_eq_iff, sum_eq_iff, app_toList, app_toList, sumL_tail _ hl]
  congr 1
  rw [beq_iff_eq]
  by_cases h : Dig.sum x = Dig.sum y
  · rw [beq_iff_eq.2 h, beq_iff_eq.2 (key.2 h)]
  · rw [beq_eq_false_iff_ne.2 h, beq_eq_false_iff_ne.2 (fun e => h (key.1 e))]
end Go.Proofs.YtjjfbcpfmdbblaaDoor.PureDigestExtends
