/- The walks of digest's bytes and Pair. -/
import Derived.Test.YtcikhbamdbphaaaDigB
namespace Go.Proofs.Ytcikhbamdbphaaa.DigC
open Go.RowKit Go.Proofs.Ytcikhbamdbphaaa.Dig Go.Proofs.Ytcikhbamdbphaaa.Tool Go.Proofs.Ytcikhbamdbphaaa.DigA

def eight (d : Int) : Array Value := ((by8 d).map (Value.int .u8)).toArray

set_option maxHeartbeats 1000000 in
theorem bytes_any (d : Int) (hd : 0 ≤ d ∧ d ≤ 18446744073709551615) (w : World) :
    Calls Try.prog 36 #[.int .u64 d] w fun e w' => e = .returned (.agg (eight d)) ∧ Below w.heap.size w w' := by
  go_enter Try.func36, Try.ntmps36
  go_wp2
  refine wp_loop_rounds 9 ?_
  iterate 9 (rw [rounds_succ]; go_wp2)
  refine bodyPost_ret (v := .agg (eight d)) ?_ rfl ⟨rfl, ?_⟩
  · simp [results, Try.results36, go_sem]
    rfl
  · exact (((Below.refl _ _).alloc (Nat.le_refl _) _).alloc (by simp) _)

set_option maxHeartbeats 1000000 in
theorem pair_any (a b : Int) (ha : 0 ≤ a ∧ a ≤ 18446744073709551615) (hb : 0 ≤ b ∧ b ≤ 18446744073709551615) (w : World) :
    Calls Try.prog 23 #[.int .u64 a, .int .u64 b] w fun e w' => e = .returned (.int .u64 (Dig.sum (pairS a b))) ∧ Below w.heap.size w w' := by
  go_enter Try.func23, Try.ntmps23
  go_wp2_with fail
  refine (bytes_any a ha _).mono ?_
  rintro e w1 ⟨rfl, h1⟩
  go_wp2_with fail
  refine (bytes_any b hb _).mono ?_
  rintro e w2 ⟨rfl, h2⟩
  have ea : eight a = #[.int .u8 (rdI (by8 a) 0), .int .u8 (rdI (by8 a) 1), .int .u8 (rdI (by8 a) 2), .int .u8 (rdI (by8 a) 3), .int .u8 (rdI (by8 a) 4), .int .u8 (rdI (by8 a) 5), .int .u8 (rdI (by8 a) 6), .int .u8 (rdI (by8 a) 7)] := rfl
  have eb : eight b = #[.int .u8 (rdI (by8 b) 0), .int .u8 (rdI (by8 b) 1), .int .u8 (rdI (by8 b) 2), .int .u8 (rdI (by8 b) 3), .int .u8 (rdI (by8 b) 4), .int .u8 (rdI (by8 b) 5), .int .u8 (rdI (by8 b) 6), .int .u8 (rdI (by8 b) 7)] := rfl
  rw [ea, eb]
  clear ea eb
  go_wp2
  refine tail_region 6 (by kernel_rfl) (by kernel_rfl) fun W hW => ?_
  simp only [List.take_succ_cons, List.take_zero, List.drop_succ_cons, List.drop_zero]
  have c1 := conv_blk (P := Try.prog) Try.underlying68 Try.underlying5 Try.underlying9 (xs := by8 a) 8 8 rfl (two_fst hW)
  have c2 := conv_blk (P := Try.prog) Try.underlying68 Try.underlying5 Try.underlying9 (xs := by8 b) 8 8 rfl (two_snd hW)
  have s1 : (strOfNums (by8 a)).size = 8 := by rw [strOfNums_size]; rfl
  have s2 : (strOfNums (by8 b)).size = 8 := by rw [strOfNums_size]; rfl
  have HB : Below w.heap.size w W := by
    rw [hW]
    exact Below.drew (((h1.trans (h2.mono h1.size)).alloc (Nat.le_trans h1.size h2.size) _).alloc (by simp; have := h1.size; have := h2.size; omega) _)
  have HW := Lib.hid hW
  clear hW
  repeat still_step
  refine wpStill_nil ?_
  clear c1 c2
  go_wp2_with fail
  refine (DigB.sum_any (pairS a b) _ (by rw [pairS_size]; decide)).mono ?_
  rintro e w3 ⟨rfl, h3⟩
  go_wp2
  go_ret
  exact ⟨rfl, HB.trans (h3.mono HB.size)⟩
end Go.Proofs.Ytcikhbamdbphaaa.DigC
