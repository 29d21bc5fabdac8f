/- The law DigestSteps, said of the printed functions: the state of a longer string goes on from that of its beginning, and the digest is the state's, finished. -/
import Derived.Test.YtjjfbcpfmdbblaaDoorPureRef23
import Derived.OpenShut
namespace Go.Proofs.YtjjfbcpfmdbblaaDoor.PureDigestSteps
open Go.RowKit Go.Proofs.YtjjfbcpfmdbblaaDoor Go.Proofs.YtjjfbcpfmdbblaaDoor.PAll Go.Proofs.YtjjfbcpfmdbblaaDoorW.PrintWords Go.Proofs.YtjjfbcpfmdbblaaDoorW.PrintMore Go.Proofs.YtjjfbcpfmdbblaaDoor.Stub
open Go.Proofs.YtjjfbcpfmdbblaaDoor.Dig Go.Proofs.YtjjfbcpfmdbblaaDoor.PureRef23

open Go.Proofs.YtjjfbcpfmdbblaaDoor.DigA Go.Proofs.YtjjfbcpfmdbblaaDoor.DigB
theorem loop (s : ByteArray) (hs : s.size ≤ 9223372036854775806) : ∀ (d k i : Nat) (x : BitVec 64), i + d = s.size → d < k →
    fin ((s.data.toList.drop i).foldl (fun x b => stp x (w8 b)) x) (BitVec.ofNat 64 s.size) = sumL s.data.toList →
    wageofficelaw23_DigestSteps.l0 k s true (u x) (i : Int) = some true := by
  intro d
  induction d with
  | zero =>
    intro k i x hi hk h
    obtain ⟨k, rfl⟩ := rounds (show 0 < k by omega)
    simp only [wageofficelaw23_DigestSteps.l0]
    rw [if_neg (by omega), if_true, sum_f s (by omega)]
    simp only [Option.bind_some]
    rw [List.drop_of_length_le (by simp; omega)] at h
    simp only [List.foldl_nil] at h
    rw [u_nat s.size (by omega)]
    simp only [u_wrap, u_xor, u_shr31, u_mulA, u_shr27, u_mulB, u_shr33]
    congr 1
    rw [beq_iff_eq]
    exact congrArg u h.symm
  | succ d ih =>
    intro k i x hi hk h
    obtain ⟨k, rfl⟩ := rounds (show 0 < k by omega)
    have hlt : i < s.size := by omega
    simp only [wageofficelaw23_DigestSteps.l0]
    rw [if_pos (by omega), if_pos (by omega), bt_byte s i hlt, ← u_w8, u_wrap, u_xor, u_mulK, u_shr32, u_xor, wrap64_id (by omega) (by omega)]
    rw [drop_byte s i hlt] at h
    have := ih k (i + 1) (stp x (w8 s[i])) (by omega) (by omega) h
    exact_mod_cast this
theorem holds (a0 : ByteArray) (a1 : Int) (w0 : a0.size ≤ 140737488351232) (w1 : (Lit.int .i64 a1).wf = true) :
    ∃ k, wageofficelaw23_DigestSteps.f k a0 a1 = some true := by
  refine ⟨a0.size + 2, ?_⟩
  have b1 := bounds_i64 w1
  unfold wageofficelaw23_DigestSteps.f
  rw [head_eq _ (by omega)]
  simp only [Option.bind_some]
  have m1 := mn_le (a0.size : Int) 2000
  generalize mn (a0.size : Int) 2000 = n at *
  rw [if_pos (by omega), if_pos (by omega)]
  have s0 : (a0.extract 0 n.toNat).size = n.toNat := by rw [ext_size]; omega
  generalize a0.extract 0 n.toNat = x at *
  rw [wrap64_id (x := (x.size : Int) + 1) (by omega) (by omega)]
  obtain ⟨t, ht, t0, t1⟩ := pick_eq a1 ((x.size : Int) + 1) b1.1 b1.2 (by omega)
  rw [ht]; simp only [Option.bind_some]
  rw [if_pos t0, if_pos (by omega)]
  obtain ⟨j, rfl⟩ : ∃ j : Nat, t = (j : Int) := ⟨t.toNat, by omega⟩
  rw [Int.toNat_natCast]
  have e1 : (x.extract 0 j).size = j := by rw [ext_size]; omega
  rw [State_eq _ (by omega) _ (by omega)]
  simp only [Option.bind_some]
  refine loop x (by omega) (x.size - j) _ j _ (by omega) (by omega) ?_
  unfold sumL
  have e2 : x.data.toList.length = x.size := by simp
  rw [e2]
  congr 1
  rw [ext_toList]
  simp only [List.drop_zero, Nat.sub_zero]
  rw [← state_append, List.take_append_drop]
end Go.Proofs.YtjjfbcpfmdbblaaDoor.PureDigestSteps
