/- The law MerkleChange, said of the printed functions. -/
import Derived.Test.YtcikhbamdbphaaaPureMer
import Derived.Test.YtcikhbamdbphaaaPAllx7
namespace Go.Proofs.Ytcikhbamdbphaaa.PureMerkleChange
open Go.RowKit Go.Proofs.Ytcikhbamdbphaaa Go.Proofs.Ytcikhbamdbphaaa.PAll Go.Proofs.YtcikhbamdbphaaaW.PrintWords Go.Proofs.YtcikhbamdbphaaaW.PrintLast Go.Proofs.Ytcikhbamdbphaaa.Stub Go.Proofs.Ytcikhbamdbphaaa.PureMer
theorem holds (z0 : List ByteArray) (a1 : Int) (a2 : ByteArray) (w1 : (Lit.int .u8 a1).wf = true) (w2 : a2.size ≤ 140737488351232) : ∃ k, wageofficelaw24_MerkleChange.f k z0 a1 a2 = some true := by
  obtain ⟨c0, c1⟩ := wf_u8 w1
  obtain ⟨y, rfl⟩ : ∃ y : Nat, a1 = y := ⟨a1.toNat, by omega⟩
  obtain ⟨b, hb, hsm⟩ := small_eq z0 (z0.length + 2000) (by omega)
  refine ⟨z0.length + 2000, ?_⟩
  have htrue : wageofficelaw24_MerkleChange.j0 (z0.length + 2000) z0 (y : Int) a2 true true = some true := by rw [show z0.length + 2000 = (z0.length + 1999) + 1 from rfl, wageofficelaw24_MerkleChange.j0, if_pos rfl]
  unfold wageofficelaw24_MerkleChange.f wageofficelaw24_head.f
  rw [Option.bind_some, hb, Option.bind_some]
  cases b with
  | false => rw [if_neg (by simp)]; exact htrue
  | true =>
    obtain ⟨h80, hsh⟩ := hsm rfl
    rw [if_pos rfl]
    by_cases h0 : (z0.length : Int) = 0
    · rw [if_pos h0]; exact htrue
    · rw [if_neg h0]
      by_cases h60 : (a2.size : Int) > 60
      · rw [decide_eq_true h60]; exact htrue
      · have e2 : Int.tmod (wrap64 (y : Int)) (z0.length : Int) = ((y % z0.length : Nat) : Int) := by rw [wrap64_id (by omega) (by omega), tmod_nat]
        have hy : y % z0.length < z0.length := Nat.mod_lt _ (by omega)
        generalize y % z0.length = q at *
        have hsh2 : Sh (z0.set q a2) := fun s hs => by
          rcases List.mem_or_eq_of_mem_set hs with h | rfl
          · exact hsh s h
          · omega
        have hl2 : (z0.set q a2).length = z0.length := by simp
        have hag := Mer.path_agree (Mer.agree_set z0 q a2)
        have hv := ver_path hsh2 (i := q) (by rw [hl2]; exact hy) (by rw [hl2]; omega)
        rw [hl2, hag] at hv
        have hg : (z0.set q a2).getD q ByteArray.empty = a2 := by rw [List.getD_eq_getElem?_getD, List.getElem?_set_self hy]; rfl
        rw [hg] at hv
        rw [decide_eq_false h60, show z0.length + 2000 = (z0.length + 1999) + 1 from rfl, wageofficelaw24_MerkleChange.j0, if_neg (by simp), if_neg h0, Option.bind_some, List.nil_append, if_pos (by simp; omega), Option.bind_some, e2, if_pos (by omega), if_pos (by omega), Option.bind_some, Int.toNat_natCast,
          path_f hsh, path_f hsh2, root_f hsh2, Option.bind_some, Option.bind_some, Option.bind_some, if_pos rfl, pathF_ok hy (by omega), pathF_ok (by rw [hl2]; exact hy) (by rw [hl2]; omega), rootF_ok (by rw [hl2]; omega) (by rw [hl2]; omega), if_pos rfl, if_pos rfl, if_pos rfl, hag]
        rw [same_self _ _ (by
          have := (Mer.path_len 10 (z0.map Mer.leaf) q (by rw [List.length_map]; exact hy) (by rw [List.length_map]; omega)).1
          show (List.map ofP (Mer.path (z0.map Mer.leaf) q)).length < 100 ∧ (List.map ofP (Mer.path (z0.map Mer.leaf) q)).length < _
          rw [List.length_map]; omega), Option.bind_some, if_pos rfl]
        show (merkle_Verify.f _ (z0.length : Int) _ _ _).bind _ = _
        rw [hv]
        rfl
end Go.Proofs.Ytcikhbamdbphaaa.PureMerkleChange
