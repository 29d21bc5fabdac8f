/- The law MerkleLimits, said of the printed functions. -/
import Derived.Test.YtcikhbamdbphaaaPureMer
import Derived.Test.YtcikhbamdbphaaaPAllx6
namespace Go.Proofs.Ytcikhbamdbphaaa.PureMerkleLimits
open Go.RowKit Go.Proofs.Ytcikhbamdbphaaa Go.Proofs.Ytcikhbamdbphaaa.PAll Go.Proofs.YtcikhbamdbphaaaW.PrintWords Go.Proofs.YtcikhbamdbphaaaW.PrintLast Go.Proofs.Ytcikhbamdbphaaa.Stub Go.Proofs.Ytcikhbamdbphaaa.PureMer
theorem holds (a0 a1 : Int) (w0 : (Lit.int .u16 a0).wf = true) (w1 : (Lit.int .u16 a1).wf = true) : wageofficelaw24_MerkleLimits.f a0 a1 = some true := by
  obtain ⟨b0, b1⟩ := wf_u16 w0
  obtain ⟨c0, c1⟩ := wf_u16 w1
  obtain ⟨x, rfl⟩ : ∃ x : Nat, a0 = x := ⟨a0.toNat, by omega⟩
  obtain ⟨y, rfl⟩ : ∃ y : Nat, a1 = y := ⟨a1.toNat, by omega⟩
  obtain ⟨m, hm⟩ : ∃ m, 1020 + x % 9 = m := ⟨_, rfl⟩
  have e1 : wrap64 (1020 + Int.tmod (wrap64 (x : Int)) 9) = (m : Int) := by
    rw [wrap64_id (x := (x : Int)) (by omega) (by omega), show (9 : Int) = ((9 : Nat) : Int) from rfl, tmod_nat, wrap64_id (by omega) (by omega)]; omega
  have e2 : Int.tmod (wrap64 (y : Int)) (m : Int) = ((y % m : Nat) : Int) := by rw [wrap64_id (by omega) (by omega), tmod_nat]
  have hy : y % m < m := Nat.mod_lt _ (by omega)
  have hsh : Sh (List.replicate m (⟨#[]⟩ : ByteArray)) := fun s hs => by rw [(List.mem_replicate.1 hs).2]; decide
  unfold wageofficelaw24_MerkleLimits.f wageofficelaw24_head.f
  rw [Option.bind_some, e1, e2, if_pos (by omega), if_pos (by omega), Option.bind_some, Int.toNat_natCast, root_f hsh, Option.bind_some, if_neg (by omega), path_f hsh, Option.bind_some]
  by_cases h : (m : Int) > 1024
  · have r1 : Mer.rootF (List.replicate m (⟨#[]⟩ : ByteArray)) = (0, 2) := by unfold Mer.rootF; rw [List.length_replicate, if_neg (by omega), if_pos (by omega)]
    have r2 : Mer.pathF (List.replicate m (⟨#[]⟩ : ByteArray)) ((y % m : Nat) : Int) = ([], 2) := by unfold Mer.pathF; rw [List.length_replicate, if_neg (by omega), if_pos (by omega)]
    rw [if_pos h, r1, r2]
    rfl
  · have hv := ver_path hsh (i := y % m) (by rw [List.length_replicate]; exact hy) (by rw [List.length_replicate]; omega)
    rw [List.length_replicate] at hv
    rw [if_neg h, rootF_ok (by rw [List.length_replicate]; omega) (by rw [List.length_replicate]; omega), pathF_ok (by rw [List.length_replicate]; exact hy) (by rw [List.length_replicate]; omega), if_pos rfl, if_pos rfl, if_pos rfl]
    have hg : (List.replicate m (⟨#[]⟩ : ByteArray)).getD (y % m) ByteArray.empty = ⟨#[]⟩ := by
      rw [List.getD_eq_getElem?_getD, List.getElem?_replicate, if_pos hy]; rfl
    rw [hg] at hv
    rw [hv]
    rfl
end Go.Proofs.Ytcikhbamdbphaaa.PureMerkleLimits
