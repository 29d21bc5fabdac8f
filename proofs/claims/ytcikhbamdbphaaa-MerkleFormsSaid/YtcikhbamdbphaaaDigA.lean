/- Walks of digest's inner functions: the state's add and digest. -/
import Derived.Test.YtcikhbamdbphaaaProg
import Derived.Test.YtcikhbamdbphaaaDig
import Derived.Test.YtcikhbamdbphaaaTool
namespace Go.Proofs.Ytcikhbamdbphaaa.DigA
open Go.RowKit Go.Proofs.Ytcikhbamdbphaaa.Dig Go.Proofs.Ytcikhbamdbphaaa.Tool

theorem u_xor (x y : BitVec 64) : bits .xor .u64 (u x) (u y) = u (x ^^^ y) := by
  have := (x ^^^ y).isLt
  simp only [bits, u, IntKind.bits, BitVec.ofInt_natCast, BitVec.ofNat_toNat, BitVec.setWidth_eq, IntKind.wrap, IntKind.signed, Bool.false_and, Bool.false_eq_true, if_false]
  exact Int.emod_eq_of_lt (Int.natCast_nonneg _) (by exact_mod_cast this)
theorem u_mul (x y : BitVec 64) : IntKind.u64.wrap (u x * u y) = u (x * y) := by
  simp [IntKind.wrap, IntKind.bits, IntKind.signed, u, BitVec.toNat_mul]
theorem u_shr (x : BitVec 64) (k : Nat) : u x / ((2 ^ k : Nat) : Int) = u (x >>> k) := by
  simp [u, BitVec.toNat_ushiftRight, Nat.shiftRight_eq_div_pow]
theorem u_mulK (x : BitVec 64) : IntKind.u64.wrap (u x * 1099511628211) = u (x * 0x100000001b3#64) := u_mul x 0x100000001b3#64
theorem u_shr32 (x : BitVec 64) : u x / (4294967296 : Int) = u (x >>> 32) := by simpa using u_shr x 32
theorem u_range (x : BitVec 64) : 0 ≤ u x ∧ u x ≤ 18446744073709551615 := by
  have := x.isLt
  unfold u
  omega

set_option maxHeartbeats 400000 in
theorem add_calls (b : Nat) (x c : BitVec 64) (w : World) (hb : w.heap[b]? = some (.cells #[.int .u64 (u x)] 63 (0, 0))) (hc : 0 ≤ u c ∧ u c ≤ 255) :
    Calls Try.prog 34 #[.pointer (some ⟨b, 0, none⟩), .int .u8 (u c)] w fun e w' => e = .returned (.tuple #[]) ∧ OneAt b 63 (.int .u64 (u (stp x c))) w w' := by
  have hcell := cell_of_one hb
  have hfree := free_of_one hb
  go_enter Try.func34, Try.ntmps34
  go_wp2
  rw [u_xor, u_mulK]
  have hb1 := one_setCell (u := .int .u64 (u ((x ^^^ c) * 0x100000001b3#64))) hb
  generalize hW : w.setCell ⟨b, 0, none⟩ (.int .u64 (u ((x ^^^ c) * 0x100000001b3#64))) = W at *
  have HW := Lib.hid hW
  clear hW hcell hfree
  refine tail_region 9 (by kernel_rfl) (by kernel_rfl) fun W2 hW2 => ?_
  simp only [List.take_succ_cons, List.take_zero, List.drop_succ_cons, List.drop_zero]
  have hb2 : W2.heap[b]? = some (.cells #[.int .u64 (u ((x ^^^ c) * 0x100000001b3#64))] 63 (0, 0)) := by rw [hW2]; exact hb1
  have hcell2 := cell_of_one hb2
  have hfree2 := free_of_one hb2
  have HW2 := Lib.hid hW2
  clear hW2
  repeat still_step
  refine wpStill_nil ?_
  rw [u_shr32, u_xor]
  go_wp2
  go_end0
  refine ⟨rfl, ?_⟩
  refine ⟨one_setCell (u := .int .u64 (u (stp x c))) hb2, ?_⟩
  rw [HW2.out, ← HW.out]
  exact Lib.grownBy_trans (Lib.Hx.grownBy_drew (Lib.grownBy_setCell w b 0 _)) (Lib.grownBy_setCell _ b 0 _)

theorem u_shr31 (x : BitVec 64) : u x / (2147483648 : Int) = u (x >>> 31) := by simpa using u_shr x 31
theorem u_shr27 (x : BitVec 64) : u x / (134217728 : Int) = u (x >>> 27) := by simpa using u_shr x 27
theorem u_shr33 (x : BitVec 64) : u x / (8589934592 : Int) = u (x >>> 33) := by simpa using u_shr x 33
theorem u_mulA (x : BitVec 64) : IntKind.u64.wrap (u x * 13787848793156543929) = u (x * 0xbf58476d1ce4e5b9#64) := u_mul x 0xbf58476d1ce4e5b9#64
theorem u_mulB (x : BitVec 64) : IntKind.u64.wrap (u x * 10723151780598845931) = u (x * 0x94d049bb133111eb#64) := u_mul x 0x94d049bb133111eb#64
theorem u_wrap (x : BitVec 64) : IntKind.u64.wrap (u x) = u x := by
  have := x.isLt
  simp only [IntKind.wrap, IntKind.bits, IntKind.signed, Bool.false_and, Bool.false_eq_true, if_false, u]
  exact Int.emod_eq_of_lt (Int.natCast_nonneg _) (by exact_mod_cast this)

set_option maxHeartbeats 400000 in
theorem digest_calls (b : Nat) (x N : BitVec 64) (n : Int) (w : World) (hb : w.heap[b]? = some (.cells #[.int .u64 (u x)] 63 (0, 0))) (hn : n = u N) :
    Calls Try.prog 35 #[.pointer (some ⟨b, 0, none⟩), .int .i64 n] w fun e w' => e = .returned (.int .u64 (u (fin x N))) ∧ w = w' := by
  subst hn
  have hcell := cell_of_one hb
  go_enter Try.func35, Try.ntmps35
  go_wp2
  simp only [u_wrap, u_xor, u_shr31, u_mulA, u_shr27, u_mulB, u_shr33]
  go_ret
  exact ⟨rfl, rfl⟩
end Go.Proofs.Ytcikhbamdbphaaa.DigA
