/- The contracts of package digest in the printed form: '.f' is what the function computes, '.calls' that the machine's call does. -/
import Derived.Test.YtjjfbcpfmdbblaaDoorDigE
namespace Go.Proofs.YtjjfbcpfmdbblaaDoor.Stub
open Go.RowKit Go.Proofs.YtjjfbcpfmdbblaaDoor Go.Proofs.YtjjfbcpfmdbblaaDoor.DigD

def u64ok (a : Int) : Bool := decide (0 ≤ a ∧ a ≤ 18446744073709551615)
theorem u64ok_of {a : Int} (h : u64ok a = true) : 0 ≤ a ∧ a ≤ 18446744073709551615 := by simpa [u64ok] using h

def digest_Sum.f (a0 : ByteArray) : Option Int := if a0.size ≤ 9223372036854775807 then some (Dig.sum a0) else none
theorem digest_Sum.calls (a0 : ByteArray) (r : Int) (w : World) (h : digest_Sum.f a0 = some r) :
    Calls Tryd.prog 12 #[.string a0] w fun e w' => e = .returned (.int .u64 r) ∧ Below w.heap.size w w' := by
  unfold digest_Sum.f at h
  split at h
  · cases h; exact DigB.sum_any a0 w ‹_›
  · cases h
def digest_Pair.f (a0 a1 : Int) : Option Int := if u64ok a0 = true ∧ u64ok a1 = true then some (Dig.sum (Dig.pairS a0 a1)) else none
theorem digest_Pair.calls (a0 a1 : Int) (r : Int) (w : World) (h : digest_Pair.f a0 a1 = some r) :
    Calls Tryd.prog 14 #[.int .u64 a0, .int .u64 a1] w fun e w' => e = .returned (.int .u64 r) ∧ Below w.heap.size w w' := by
  unfold digest_Pair.f at h
  split at h
  · rename_i hc; cases h; exact DigC.pair_any a0 a1 (u64ok_of hc.1) (u64ok_of hc.2) w
  · cases h
def digest_Text.f (a0 : Int) : Option ByteArray := if u64ok a0 = true then some (Dig.text a0) else none
theorem digest_Text.calls (a0 : Int) (r : ByteArray) (w : World) (h : digest_Text.f a0 = some r) (hT : TabHex w) :
    Calls Tryd.prog 16 #[.int .u64 a0] w fun e w' => e = .returned (.string r) ∧ Below w.heap.size w w' := by
  unfold digest_Text.f at h
  split at h
  · rename_i hc; cases h; exact DigD.text_any a0 (u64ok_of hc) w hT
  · cases h
def digest_Parse.f (a0 : ByteArray) : Option (Int × Int) := some (Dig.parse a0)
theorem digest_Parse.calls (a0 : ByteArray) (r1 r2 : Int) (w : World) (h : digest_Parse.f a0 = some (r1, r2)) (hT : TabHex w) :
    Calls Tryd.prog 10 #[.string a0] w fun e w' => e = .returned (.tuple #[.int .u64 r1, .int .i64 r2]) ∧ Below w.heap.size w w' := by
  have e : Dig.parse a0 = (r1, r2) := Option.some.inj h
  have := DigE.parse_any a0 w hT
  rw [e] at this
  exact this.mono fun _ _ ⟨h1, h2⟩ => ⟨h1, h2 ▸ Below.refl _ _⟩
end Go.Proofs.YtjjfbcpfmdbblaaDoor.Stub
