/- The law MerklePaths, said of the printed functions. -/
import Derived.Test.YtcikhbamdbphaaaPureMer
import Derived.Test.YtcikhbamdbphaaaPAllx6
namespace Go.Proofs.Ytcikhbamdbphaaa.PureMerklePaths
open Go.RowKit Go.Proofs.Ytcikhbamdbphaaa Go.Proofs.Ytcikhbamdbphaaa.PAll Go.Proofs.YtcikhbamdbphaaaW.PrintWords Go.Proofs.YtcikhbamdbphaaaW.PrintLast Go.Proofs.Ytcikhbamdbphaaa.Stub Go.Proofs.Ytcikhbamdbphaaa.PureMer
theorem holds (z0 : List ByteArray) (a1 : Int) (w1 : (Lit.int .u8 a1).wf = true) : ∃ k, wageofficelaw24_MerklePaths.f k z0 a1 = some true := by
  obtain ⟨c0, c1⟩ := wf_u8 w1
  obtain ⟨y, rfl⟩ : ∃ y : Nat, a1 = y := ⟨a1.toNat, by omega⟩
  obtain ⟨b, hb, hsm⟩ := small_eq z0 (z0.length + 1) (by omega)
  refine ⟨z0.length + 1, ?_⟩
  unfold wageofficelaw24_MerklePaths.f wageofficelaw24_head.f
  rw [Option.bind_some, hb, Option.bind_some]
  cases b with
  | false => rw [if_neg (by simp), wageofficelaw24_MerklePaths.j0, if_pos rfl]
  | true =>
    obtain ⟨h80, hsh⟩ := hsm rfl
    rw [if_pos rfl, wageofficelaw24_MerklePaths.j0]
    by_cases h0 : z0.length = 0
    · rw [if_pos (by simp [h0])]
    · have e2 : Int.tmod (wrap64 (y : Int)) (z0.length : Int) = ((y % z0.length : Nat) : Int) := by rw [wrap64_id (by omega) (by omega), tmod_nat]
      have hy : y % z0.length < z0.length := Nat.mod_lt _ (by omega)
      generalize y % z0.length = q at *
      rw [if_neg (by rw [beq_iff_eq]; omega), if_neg (by omega), e2, root_f hsh, path_f hsh, Option.bind_some, Option.bind_some, if_pos rfl, rootF_ok (by omega) (by omega), pathF_ok hy (by omega), if_pos rfl, if_pos rfl, if_pos (by omega), if_pos (by omega), rdOf_at, ver_path hsh hy (by omega), Option.bind_some, if_pos rfl]
      by_cases h1 : (z0.length : Int) > 1
      · rw [if_pos h1]
      · rw [if_neg h1]
        have hl : (z0.map Mer.leaf).length ≤ 1 := by rw [List.length_map]; omega
        obtain rfl : q = 0 := by omega
        rw [Mer.path_one hl]
        rfl
end Go.Proofs.Ytcikhbamdbphaaa.PureMerklePaths
