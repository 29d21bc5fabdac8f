/- The law DigestOneByte, said of the printed functions: one byte that is replaced turns the digest, also under a common tail. -/
import Derived.Test.YtjjfbcpfmdbblaaDoorPureRef23
import Derived.OpenShut
namespace Go.Proofs.YtjjfbcpfmdbblaaDoor.PureDigestOneByte
open Go.RowKit Go.Proofs.YtjjfbcpfmdbblaaDoor Go.Proofs.YtjjfbcpfmdbblaaDoor.PAll Go.Proofs.YtjjfbcpfmdbblaaDoorW.PrintWords Go.Proofs.YtjjfbcpfmdbblaaDoorW.PrintMore Go.Proofs.YtjjfbcpfmdbblaaDoor.Stub
open Go.Proofs.YtjjfbcpfmdbblaaDoor.Dig Go.Proofs.YtjjfbcpfmdbblaaDoor.PureRef23

theorem one_byte (c : Int) : (strOfNums [c]).data.toList = [UInt8.ofNat c.toNat] ∧ (strOfNums [c]).size = 1 := ⟨rfl, strOfNums_size _⟩
theorem byte_eq (b : UInt8) (c : Int) (h0 : 0 ≤ c) (h1 : c ≤ 255) : ((b.toNat : Int) = c) ↔ b = UInt8.ofNat c.toNat := by
  constructor
  · intro h
    apply UInt8.toNat_inj.1
    rw [UInt8.toNat_ofNat']
    omega
  · intro h
    rw [h, UInt8.toNat_ofNat']
    omega
theorem holds (a0 : ByteArray) (a1 a2 : Int) (a3 : ByteArray) (w0 : a0.size ≤ 140737488351232) (w1 : (Lit.int .i64 a1).wf = true) (w2 : (Lit.int .u8 a2).wf = true) (w3 : a3.size ≤ 140737488351232) :
    ∃ k, wageofficelaw23_DigestOneByte.f k a0 a1 a2 a3 = some true := by
  refine ⟨2, ?_⟩
  have b1 := bounds_i64 w1
  have b2 := bounds_u8 w2
  unfold wageofficelaw23_DigestOneByte.f
  rw [head_eq 2 (by decide)]
  simp only [Option.bind_some]
  have m1 := mn_range (a0.size : Int) 2000 (by omega) (by omega)
  have m2 := mn_range (a3.size : Int) 200 (by omega) (by omega)
  generalize mn (a0.size : Int) 2000 = n at *
  generalize mn (a3.size : Int) 200 = m at *
  rw [if_pos (by omega), if_pos (by omega), if_pos (by omega), if_pos (by omega)]
  have s0 : (a0.extract 0 n.toNat).size = n.toNat := by rw [ext_size]; omega
  have s2 : (a3.extract 0 m.toNat).size = m.toNat := by rw [ext_size]; omega
  have hxs : (a0.extract 0 n.toNat).size ≤ 2000 := by omega
  have hzs : (a3.extract 0 m.toNat).size ≤ 200 := by omega
  clear s0 s2 m1 m2
  generalize a0.extract 0 n.toNat = x at *
  generalize a3.extract 0 m.toNat = z at *
  clear w0 w3
  by_cases hx : (x.size : Int) = 0
  · rw [if_pos hx]
  rw [if_neg hx]
  obtain ⟨t, ht, t0, t1⟩ := pick_eq a1 (x.size : Int) b1.1 b1.2 (by omega)
  rw [ht]; simp only [Option.bind_some]
  have hw : wrap64 (t + 1) = t + 1 := wrap64_id (by omega) (by omega)
  rw [hw]
  obtain ⟨j, rfl⟩ : ∃ j : Nat, t = (j : Int) := ⟨t.toNat, by omega⟩
  clear ht hw b1
  rw [toNat_succ, Int.toNat_natCast]
  have hj : j < x.size := by omega
  have e1 : (x.extract 0 j).size = j := by rw [ext_size]; omega
  have e2 : (x.extract (j + 1) x.size).size = x.size - (j + 1) := by rw [ext_size]; omega
  have e3 := (one_byte a2).2
  have e4 := (one_byte a2).1
  generalize strOfNums [a2] = c at *
  have q1 : (x.extract 0 j).size + c.size ≤ 9223372036854775807 := by omega
  have q2 : (x.extract 0 j).size + c.size + (x.extract (j + 1) x.size).size ≤ 9223372036854775807 := by omega
  rw [if_pos (by omega), if_pos (by omega), if_pos q1, if_pos (by omega), if_pos (by omega), if_pos q2, if_pos (by omega), if_true]
  have lx : x.data.toList = x.data.toList.take j ++ x[j] :: x.data.toList.drop (j + 1) := by
    rw [← drop_byte x j hj, List.take_append_drop]
  generalize hy : (x.extract 0 j ++ c) ++ x.extract (j + 1) x.size = y
  have ly : y.data.toList = x.data.toList.take j ++ UInt8.ofNat a2.toNat :: x.data.toList.drop (j + 1) := by
    rw [← hy, app_toList, app_toList, e4, ext_toList, ext_toList]
    simp
    rw [List.take_of_length_le (by simp)]
  have sy : y.size = x.size := by rw [← hy, ByteArray.size_append, ByteArray.size_append]; omega
  clear q1 q2
  have px : x.size ≤ 9223372036854775807 := Nat.le_trans hxs (by decide)
  have py : y.size ≤ 9223372036854775807 := by rw [sy]; exact px
  rw [sum_f x px, Option.bind_some, sum_f y py, Option.bind_some]
  have hb : (bt x (j : Int) == a2) = decide (x[j] = UInt8.ofNat a2.toNat) := by
    rw [bt_byte x j hj, Bool.eq_iff_iff, beq_iff_eq, decide_eq_true_iff, byte_eq _ _ b2.1 b2.2]
  rw [hb]
  have k1 : (Dig.sum x == Dig.sum y) = decide (x[j] = UInt8.ofNat a2.toNat) := by
    rw [Bool.eq_iff_iff, beq_iff_eq, decide_eq_true_iff, sum_eq_iff, lx, ly, sumL_byte]
  rw [k1]
  have q3 : x.size + z.size ≤ 9223372036854775807 := by omega
  have q4 : (x.extract 0 j).size + c.size + (x.extract (j + 1) x.size).size + z.size ≤ 9223372036854775807 := by omega
  rw [if_pos (by simp), if_pos q3, sum_f (x ++ z) (by rw [ByteArray.size_append]; exact q3), Option.bind_some]
  rw [if_pos q4, sum_f (y ++ z) (by rw [ByteArray.size_append, sy]; exact q3), Option.bind_some]
  have k2 : (Dig.sum (x ++ z) == Dig.sum (y ++ z)) = decide (x[j] = UInt8.ofNat a2.toNat) := by
    rw [Bool.eq_iff_iff, beq_iff_eq, decide_eq_true_iff, sum_eq_iff, app_toList, app_toList, sumL_tail _ (by simpa using sy.symm), lx, ly, sumL_byte]
  rw [k2]
  simp
end Go.Proofs.YtjjfbcpfmdbblaaDoor.PureDigestOneByte
