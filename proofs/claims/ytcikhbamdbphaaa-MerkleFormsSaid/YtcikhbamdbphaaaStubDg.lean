/- The contracts of digest.Sum and digest.Pair in the printed form (for seats that reach no more of the package): '.f' is what the function computes, '.calls' that the machine's call does. -/
import Derived.Test.YtcikhbamdbphaaaDigB
import Derived.Test.YtcikhbamdbphaaaDigC
namespace Go.Proofs.Ytcikhbamdbphaaa.Stub
open Go.RowKit Go.Proofs.Ytcikhbamdbphaaa

def u64ok (a : Int) : Bool := decide (0 ≤ a ∧ a ≤ 18446744073709551615)
theorem u64ok_of {a : Int} (h : u64ok a = true) : 0 ≤ a ∧ a ≤ 18446744073709551615 := by simpa [u64ok] using h

def digest_Sum.f (a0 : ByteArray) : Option Int := if a0.size ≤ 9223372036854775807 then some (Dig.sum a0) else none
theorem digest_Sum.calls (a0 : ByteArray) (r : Int) (w : World) (h : digest_Sum.f a0 = some r) :
    Calls Try.prog 22 #[.string a0] w fun e w' => e = .returned (.int .u64 r) ∧ Below w.heap.size w w' := by
  unfold digest_Sum.f at h
  split at h
  · cases h; exact DigB.sum_any a0 w ‹_›
  · cases h
def digest_Pair.f (a0 a1 : Int) : Option Int := if u64ok a0 = true ∧ u64ok a1 = true then some (Dig.sum (Dig.pairS a0 a1)) else none
theorem digest_Pair.calls (a0 a1 : Int) (r : Int) (w : World) (h : digest_Pair.f a0 a1 = some r) :
    Calls Try.prog 23 #[.int .u64 a0, .int .u64 a1] w fun e w' => e = .returned (.int .u64 r) ∧ Below w.heap.size w w' := by
  unfold digest_Pair.f at h
  split at h
  · rename_i hc; cases h; exact DigC.pair_any a0 a1 (u64ok_of hc.1) (u64ok_of hc.2) w
  · cases h
end Go.Proofs.Ytcikhbamdbphaaa.Stub
