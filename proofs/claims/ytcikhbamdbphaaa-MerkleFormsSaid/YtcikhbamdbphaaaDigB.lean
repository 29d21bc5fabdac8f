/- The walk of digest.Sum. -/
import Derived.Test.YtcikhbamdbphaaaDigA
import Derived.Deep.LoopGhost
namespace Go.Proofs.Ytcikhbamdbphaaa.DigB
open Go.RowKit Go.Proofs.Ytcikhbamdbphaaa.Dig Go.Proofs.Ytcikhbamdbphaaa.Tool Go.Proofs.Ytcikhbamdbphaaa.DigA

theorem u_w8 (b : UInt8) : u (w8 b) = (b.toNat : Int) := by
  have := b.toNat_lt
  simp only [u, w8, BitVec.toNat_ofNat]
  rw [Nat.mod_eq_of_lt (by omega)]
theorem add_any (b : Nat) (x : BitVec 64) (c : UInt8) (w : World) (hb : w.heap[b]? = some (.cells #[.int .u64 (u x)] 63 (0, 0))) :
    Calls Try.prog 34 #[.pointer (some ⟨b, 0, none⟩), .int .u8 (c.toNat : Int)] w fun e w' => e = .returned (.tuple #[]) ∧ OneAt b 63 (.int .u64 (u (stp x (w8 c)))) w w' := by
  have h := add_calls b x (w8 c) w hb (by have := c.toNat_lt; rw [u_w8]; omega)
  rw [u_w8] at h
  exact h
theorem take_snoc (s : ByteArray) (k : Nat) (h : k < s.size) : s.data.toList.take (k + 1) = s.data.toList.take k ++ [s[k]] := by
  rw [List.take_succ_eq_append_getElem (by simpa using h)]; rfl
theorem u_nat (n : Nat) (h : n ≤ 9223372036854775807) : (n : Int) = u (BitVec.ofNat 64 n) := by
  simp only [u, BitVec.toNat_ofNat]
  rw [Nat.mod_eq_of_lt (by omega)]

set_option maxHeartbeats 400000 in
theorem sum_any (s : ByteArray) (w : World) (hs : s.size ≤ 9223372036854775807) :
    Calls Try.prog 22 #[.string s] w fun e w' => e = .returned (.int .u64 (Dig.sum s)) ∧ Below w.heap.size w w' := by
  have hN := Lib.hid (u_nat s.size hs)
  go_enter Try.func22, Try.ntmps22
  go_wp2
  go_loopw [9] (fun i wr => ∃ k : Nat, k ≤ s.size ∧ i = .int .i64 k ∧ wr.heap[w.heap.size]? = some (.cells #[.int .u64 (u (state (s.data.toList.take k)))] 63 (0, 0)) ∧ Below w.heap.size w wr)
    (fun i _ => s.size - (intOf i).toNat)
  case atStart =>
    exact ⟨0, Nat.zero_le _, rfl, heap_alloc_new _ _, (Below.refl _ _).alloc (Nat.le_refl _) _⟩
  case round =>
    obtain ⟨k, hk, rfl, hb, hB⟩ := hrel
    by_cases hlt : k < s.size
    · have HS := Lib.hid (take_snoc s k hlt)
      go_wp2_with fail
      refine (add_any _ _ _ _ hb).mono ?_
      rintro e w1 ⟨rfl, h1, hg⟩
      go_wp2
      go_roundw
      case rel =>
        refine ⟨k + 1, by omega, by go_num, ?_, ?_⟩
        · rw [HS.out, state_snoc]; exact h1
        · exact hB.grown hg hB.size (fun k e => by cases e; exact Nat.le_refl _)
      case measure => simp [intOf]; omega
    · obtain rfl : k = s.size := by omega
      have hcell := cell_of_one hb
      go_wp2_with fail
      refine (digest_calls _ _ _ _ _ hb hN.out).mono ?_
      rintro e w1 ⟨rfl, rfl⟩
      go_wp2
      go_ret
      have e : s.data.toList.take s.size = s.data.toList := List.take_of_length_le (by simp)
      refine ⟨?_, hB⟩
      rw [e]
      rfl
end Go.Proofs.Ytcikhbamdbphaaa.DigB
