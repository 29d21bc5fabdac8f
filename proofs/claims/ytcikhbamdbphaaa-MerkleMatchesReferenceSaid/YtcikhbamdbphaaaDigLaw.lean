/- Plain facts on digests: no step of the state and no step of the finishing loses anything; one changed byte changes the digest. -/
import Derived.Test.YtcikhbamdbphaaaDig
namespace Go.Proofs.Ytcikhbamdbphaaa.Dig

theorem u_inj {x y : BitVec 64} (h : u x = u y) : x = y := BitVec.eq_of_toNat_eq (Int.ofNat.inj h)
theorem u_of {a : Int} (h0 : 0 ≤ a) (h1 : a ≤ 18446744073709551615) : ∃ x : BitVec 64, a = u x := by
  refine ⟨BitVec.ofNat 64 a.toNat, ?_⟩
  simp only [u, BitVec.toNat_ofNat]
  rw [Nat.mod_eq_of_lt (by omega)]
  omega
theorem u_range' (x : BitVec 64) : 0 ≤ u x ∧ u x ≤ 18446744073709551615 := by
  have := x.isLt
  unfold u
  omega

/-- A word and its shifted self, joined: a shift by at least half the width undoes it. -/
theorem xs_undo (x : BitVec 64) (k : Nat) (hk : 32 ≤ k) : (x ^^^ (x >>> k)) ^^^ ((x ^^^ (x >>> k)) >>> k) = x := by
  rw [BitVec.ushiftRight_xor_distrib, ← BitVec.shiftRight_add]
  have h : x >>> (k + k) = 0#64 := by
    apply BitVec.eq_of_toNat_eq
    rw [BitVec.toNat_ushiftRight, Nat.shiftRight_eq_div_pow]
    have h1 : x.toNat < 2 ^ (k + k) := Nat.lt_of_lt_of_le x.isLt (Nat.pow_le_pow_right (by decide) (by omega))
    simp [Nat.div_eq_of_lt h1]
  rw [h]
  rw [BitVec.xor_zero, BitVec.xor_assoc, BitVec.xor_self, BitVec.xor_zero]
theorem xs_undo3 (x : BitVec 64) (k : Nat) (hk : 22 ≤ k) : let y := x ^^^ (x >>> k); y ^^^ (y >>> k) ^^^ (y >>> (k + k)) = x := by
  intro y
  have e1 : y >>> k = x >>> k ^^^ x >>> (k + k) := by
    show (x ^^^ (x >>> k)) >>> k = _
    rw [BitVec.ushiftRight_xor_distrib, ← BitVec.shiftRight_add]
  have e2 : y >>> (k + k) = x >>> (k + k) := by
    show (x ^^^ (x >>> k)) >>> (k + k) = _
    rw [BitVec.ushiftRight_xor_distrib, ← BitVec.shiftRight_add]
    have h : x >>> (k + (k + k)) = 0#64 := by
      apply BitVec.eq_of_toNat_eq
      rw [BitVec.toNat_ushiftRight, Nat.shiftRight_eq_div_pow]
      have h1 : x.toNat < 2 ^ (k + (k + k)) := Nat.lt_of_lt_of_le x.isLt (Nat.pow_le_pow_right (by decide) (by omega))
      simp [Nat.div_eq_of_lt h1]
    rw [h, BitVec.xor_zero]
  rw [e1, e2]
  show x ^^^ (x >>> k) ^^^ (x >>> k ^^^ x >>> (k + k)) ^^^ x >>> (k + k) = x
  rw [BitVec.xor_assoc, BitVec.xor_assoc (x >>> k), BitVec.xor_self, BitVec.xor_zero, BitVec.xor_assoc, BitVec.xor_self, BitVec.xor_zero]
theorem xs_inj {x y : BitVec 64} (k : Nat) (hk : 22 ≤ k) (h : x ^^^ (x >>> k) = y ^^^ (y >>> k)) : x = y := by
  have hx := xs_undo3 x k hk
  have hy := xs_undo3 y k hk
  simp only at hx hy
  rw [← hx, ← hy, h]
theorem mul_inj {x y c d : BitVec 64} (hd : c * d = 1#64) (h : x * c = y * c) : x = y := by
  have e : ∀ z : BitVec 64, z * c * d = z := fun z => by rw [BitVec.mul_assoc, hd, BitVec.mul_one]
  rw [← e x, ← e y, h]
theorem xor_inj {x y c : BitVec 64} (h : x ^^^ c = y ^^^ c) : x = y := by
  have e : ∀ z : BitVec 64, z ^^^ c ^^^ c = z := fun z => by rw [BitVec.xor_assoc, BitVec.xor_self, BitVec.xor_zero]
  rw [← e x, ← e y, h]
theorem stp_inj {x y b : BitVec 64} (h : stp x b = stp y b) : x = y :=
  xor_inj (mul_inj (d := 0xce965057aff6957b#64) (by decide) (xs_inj 32 (by decide) h))
theorem stp_inj2 {x b c : BitVec 64} (h : stp x b = stp x c) : b = c := by
  have := mul_inj (d := 0xce965057aff6957b#64) (by decide) (xs_inj 32 (by decide) h)
  rw [BitVec.xor_comm x b, BitVec.xor_comm x c] at this
  exact xor_inj this
theorem fin_inj {x y n : BitVec 64} (h : fin x n = fin y n) : x = y :=
  xor_inj (xs_inj 31 (by decide) (mul_inj (d := 0x96de1b173f119089#64) (by decide) (xs_inj 27 (by decide) (mul_inj (d := 0x319642b2d24d8ec3#64) (by decide) (xs_inj 33 (by decide) h)))))
theorem w8_inj {b c : UInt8} (h : w8 b = w8 c) : b = c := by
  have h1 := congrArg BitVec.toNat h
  have hb := b.toNat_lt
  have hc := c.toNat_lt
  simp only [w8, BitVec.toNat_ofNat] at h1
  rw [Nat.mod_eq_of_lt (by omega), Nat.mod_eq_of_lt (by omega)] at h1
  exact UInt8.toNat_inj.1 h1
theorem fold_inj (t : List UInt8) : ∀ {x y : BitVec 64}, t.foldl (fun x b => stp x (w8 b)) x = t.foldl (fun x b => stp x (w8 b)) y → x = y := by
  induction t with
  | nil => intro x y h; exact h
  | cons b t ih => intro x y h; exact stp_inj (ih h)
theorem state_tail (l m t : List UInt8) : state (l ++ t) = state (m ++ t) ↔ state l = state m := by
  rw [state_append, state_append]
  exact ⟨fun h => fold_inj t h, fun h => by rw [h]⟩
theorem sumL_eq {l m : List UInt8} (h : l.length = m.length) : sumL l = sumL m ↔ state l = state m := by
  unfold sumL
  rw [h]
  exact ⟨fun e => fin_inj e, fun e => by rw [e]⟩
/-- Of two strings of one length: their digests agree exactly if they do behind a common tail. -/
theorem sumL_tail {l m : List UInt8} (t : List UInt8) (h : l.length = m.length) : sumL (l ++ t) = sumL (m ++ t) ↔ sumL l = sumL m := by
  rw [sumL_eq (by simp [h]), sumL_eq h, state_tail]
/-- One byte. -/
theorem state_byte (p t : List UInt8) (b c : UInt8) : state (p ++ b :: t) = state (p ++ c :: t) ↔ b = c := by
  have e : ∀ b, p ++ b :: t = (p ++ [b]) ++ t := fun b => by simp
  rw [e b, e c, state_tail, state_snoc, state_snoc]
  exact ⟨fun h => w8_inj (stp_inj2 h), fun h => by rw [h]⟩
theorem sumL_byte (p t : List UInt8) (b c : UInt8) : sumL (p ++ b :: t) = sumL (p ++ c :: t) ↔ b = c := by
  rw [sumL_eq (by simp), state_byte]
theorem sum_eq_iff (s t : ByteArray) : sum s = sum t ↔ sumL s.data.toList = sumL t.data.toList := ⟨fun h => u_inj h, fun h => by unfold sum; rw [h]⟩
end Go.Proofs.Ytcikhbamdbphaaa.Dig
