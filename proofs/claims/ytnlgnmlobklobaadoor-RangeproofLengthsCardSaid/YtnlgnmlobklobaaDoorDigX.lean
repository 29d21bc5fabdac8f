/- The digest of a byte string, said plainly over 64-bit words: the state's stp, the finishing, and that both lose nothing. Walks of digest's inner functions: the state's add and digest. The walk of digest.Sum. The contracts of digest.Sum and digest.Pair in the printed form (for seats that reach no more of the package): '.f' is what the function computes, '.calls' that the machine's call does. Plain facts on digests: no step of the state and no step of the finishing loses anything; one changed byte changes the digest. -/
import Derived.KernelRfl
import Derived.Laws.BytesArg
import Derived.Test.YtnlgnmlobklobaaDoorProg
import Derived.Test.YtnlgnmlobklobaaDoorGrpX
import Derived.Deep.LoopGhost
namespace Go.Proofs.YtnlgnmlobklobaaDoor.Dig

/-- One byte more. -/
def stp (x b : BitVec 64) : BitVec 64 := let y := (x ^^^ b) * 0x100000001b3#64; y ^^^ (y >>> 32)
def st0 : BitVec 64 := 0x243f6a8885a308d3#64
def w8 (b : UInt8) : BitVec 64 := BitVec.ofNat 64 b.toNat
def state (l : List UInt8) : BitVec 64 := l.foldl (fun x b => stp x (w8 b)) st0
def fin (x n : BitVec 64) : BitVec 64 :=
  let y := x ^^^ n
  let y := y ^^^ (y >>> 31)
  let y := y * 0xbf58476d1ce4e5b9#64
  let y := y ^^^ (y >>> 27)
  let y := y * 0x94d049bb133111eb#64
  y ^^^ (y >>> 33)
/-- A word as the machine's number. -/
def u (x : BitVec 64) : Int := (x.toNat : Int)
def sumL (l : List UInt8) : BitVec 64 := fin (state l) (BitVec.ofNat 64 l.length)
def sum (s : ByteArray) : Int := u (sumL s.data.toList)

theorem state_snoc (l : List UInt8) (b : UInt8) : state (l ++ [b]) = stp (state l) (w8 b) := by simp [state]
theorem state_append (l m : List UInt8) : state (l ++ m) = m.foldl (fun x b => stp x (w8 b)) (state l) := by simp [state]

/-- The eight bytes of a word, the most significant one first. -/
def by8 (d : Int) : List Int := [d / 72057594037927936, d / 281474976710656 % 256, d / 1099511627776 % 256, d / 4294967296 % 256, d / 16777216 % 256, d / 65536 % 256, d / 256 % 256, d % 256]
/-- The string whose digest is that of two digests. -/
def pairS (a b : Int) : ByteArray := ((⟨#[1]⟩ : ByteArray) ++ strOfNums (by8 a)) ++ strOfNums (by8 b)
theorem pairS_size (a b : Int) : (pairS a b).size = 17 := by simp [pairS, ByteArray.size_append, strOfNums_size, by8]; rfl

/-- The digits' bytes. -/
def hexL : List Int := [48, 49, 50, 51, 52, 53, 54, 55, 56, 57, 97, 98, 99, 100, 101, 102]
/-- The byte of digit j of a word. -/
def hx (d : Int) (j : Nat) : Int := hexL.getD (d / 2 ^ (60 - 4 * j) % 16).toNat 0
def textL (d : Int) : List Int := (List.range 16).map (hx d)
def text (d : Int) : ByteArray := strOfNums (textL d)
theorem text_size (d : Int) : (text d).size = 16 := by simp [text, textL, strOfNums_size]
/-- The digits' cells when k of them are written. -/
def textC (d : Int) (k : Nat) : List Int := (List.range 16).map fun j => if j < k then hx d j else 0
theorem textC_zero (d : Int) : textC d 0 = List.replicate 16 0 := rfl
theorem textC_full (d : Int) : textC d 16 = textL d := by
  unfold textC textL
  exact List.map_congr_left (fun j hj => by rw [if_pos (by simpa using hj)])
theorem textC_succ (d : Int) (k : Nat) (hk : k < 16) : textC d (k + 1) = (textC d k).set k (hx d k) := by
  unfold textC
  apply List.ext_getElem?
  intro i
  rw [List.getElem?_set]
  by_cases hi : i < 16
  · by_cases e : k = i
    · subst e; simp [hi]
    · rw [if_neg e]
      simp only [List.getElem?_map, List.getElem?_range hi, Option.map_some]
      by_cases h1 : i < k
      · rw [if_pos h1, if_pos (by omega)]
      · rw [if_neg h1, if_neg (by omega)]
  · have e : ¬ k = i := by omega
    rw [if_neg e]
    simp [hi]

/-- The first of the first k digits whose byte is c. -/
def fnd (c : Int) (k : Nat) : Option Nat := (List.range k).find? (fun j => hexL.getD j 0 == c)
def parseL : List UInt8 → Int → Option Int
  | [], d => some d
  | b :: r, d => match fnd b.toNat 16 with
    | none => none
    | some j => parseL r (d * 16 + j)
/-- The digest with a text, and the error. -/
def parse (s : ByteArray) : Int × Int := if s.size = 16 then (match parseL s.data.toList 0 with | some d => (d, 0) | none => (0, 12)) else (0, 12)
theorem fnd_lt {c : Int} {k j : Nat} (h : fnd c k = some j) : j < k ∧ hexL.getD j 0 = c := by
  have h1 := List.mem_of_find?_eq_some h
  have h2 := List.find?_some h
  exact ⟨by simpa using h1, by simpa using h2⟩
theorem hex_ne : ∀ k, k < 16 → ∀ j, j < k → ¬ hexL.getD j 0 = hexL.getD k 0 := by decide
theorem fnd_hit {c : Int} {k : Nat} (hk : k < 16) (h : hexL.getD k 0 = c) : fnd c k = none ∧ fnd c (k + 1) = some k := by
  have h0 : fnd c k = none := by
    cases e : fnd c k with
    | none => rfl
    | some j => exact absurd ((fnd_lt e).2.trans h.symm) (hex_ne k hk j (fnd_lt e).1)
  refine ⟨h0, ?_⟩
  unfold fnd at h0 ⊢
  rw [List.range_succ, List.find?_append, h0]
  simp only [Option.none_or, List.find?_cons, h, beq_self_eq_true]
theorem fnd_miss {c : Int} {k : Nat} (h : ¬ hexL.getD k 0 = c) : fnd c (k + 1) = fnd c k := by
  have h' : (hexL.getD k 0 == c) = false := beq_eq_false_iff_ne.mpr h
  unfold fnd
  rw [List.range_succ, List.find?_append]
  simp only [List.find?_cons, h', List.find?_nil, Option.or_none]

end Go.Proofs.YtnlgnmlobklobaaDoor.Dig
set_option maxRecDepth 100000
namespace Go.Proofs.YtnlgnmlobklobaaDoor.DigA
open Go.RowKit Go.Proofs.YtnlgnmlobklobaaDoor.Dig Go.Proofs.YtnlgnmlobklobaaDoor.Tool

theorem u_xor (x y : BitVec 64) : bits .xor .u64 (u x) (u y) = u (x ^^^ y) := by
  have := (x ^^^ y).isLt
  simp only [bits, u, IntKind.bits, BitVec.ofInt_natCast, BitVec.ofNat_toNat, BitVec.setWidth_eq, IntKind.wrap, IntKind.signed, Bool.false_and, Bool.false_eq_true, if_false]
  exact Int.emod_eq_of_lt (Int.natCast_nonneg _) (by exact_mod_cast this)
theorem u_mul (x y : BitVec 64) : IntKind.u64.wrap (u x * u y) = u (x * y) := by
  simp [IntKind.wrap, IntKind.bits, IntKind.signed, u, BitVec.toNat_mul]
theorem u_shr (x : BitVec 64) (k : Nat) : u x / ((2 ^ k : Nat) : Int) = u (x >>> k) := by
  simp [u, BitVec.toNat_ushiftRight, Nat.shiftRight_eq_div_pow]
theorem u_mulK (x : BitVec 64) : IntKind.u64.wrap (u x * 1099511628211) = u (x * 0x100000001b3#64) := u_mul x 0x100000001b3#64
theorem u_shr32 (x : BitVec 64) : u x / (4294967296 : Int) = u (x >>> 32) := by simpa using u_shr x 32
theorem u_range (x : BitVec 64) : 0 ≤ u x ∧ u x ≤ 18446744073709551615 := by
  have := x.isLt
  unfold u
  omega

set_option maxHeartbeats 400000 in
theorem add_calls (b : Nat) (x c : BitVec 64) (w : World) (hb : w.heap[b]? = some (.cells #[.int .u64 (u x)] 64 (0, 0))) (hc : 0 ≤ u c ∧ u c ≤ 255) :
    Calls Tryd.prog 41 #[.pointer (some ⟨b, 0, none⟩), .int .u8 (u c)] w fun e w' => e = .returned (.tuple #[]) ∧ OneAt b 64 (.int .u64 (u (stp x c))) w w' := by
  have hcell := cell_of_one hb
  have hfree := free_of_one hb
  go_enter Tryd.func41, Tryd.ntmps41
  go_wp2
  rw [u_xor, u_mulK]
  have hb1 := one_setCell (u := .int .u64 (u ((x ^^^ c) * 0x100000001b3#64))) hb
  generalize hW : w.setCell ⟨b, 0, none⟩ (.int .u64 (u ((x ^^^ c) * 0x100000001b3#64))) = W at *
  have HW := Lib.hid hW
  clear hW hcell hfree
  refine tail_region 9 (by kernel_rfl) (by kernel_rfl) fun W2 hW2 => ?_
  simp only [List.take_succ_cons, List.take_zero, List.drop_succ_cons, List.drop_zero]
  have hb2 : W2.heap[b]? = some (.cells #[.int .u64 (u ((x ^^^ c) * 0x100000001b3#64))] 64 (0, 0)) := by rw [hW2]; exact hb1
  have hcell2 := cell_of_one hb2
  have hfree2 := free_of_one hb2
  have HW2 := Lib.hid hW2
  clear hW2
  repeat still_step
  refine wpStill_nil ?_
  rw [u_shr32, u_xor]
  go_wp2
  go_end0
  refine ⟨rfl, ?_⟩
  refine ⟨one_setCell (u := .int .u64 (u (stp x c))) hb2, ?_⟩
  rw [HW2.out, ← HW.out]
  exact Lib.grownBy_trans (Lib.Hx.grownBy_drew (Lib.grownBy_setCell w b 0 _)) (Lib.grownBy_setCell _ b 0 _)

theorem u_shr31 (x : BitVec 64) : u x / (2147483648 : Int) = u (x >>> 31) := by simpa using u_shr x 31
theorem u_shr27 (x : BitVec 64) : u x / (134217728 : Int) = u (x >>> 27) := by simpa using u_shr x 27
theorem u_shr33 (x : BitVec 64) : u x / (8589934592 : Int) = u (x >>> 33) := by simpa using u_shr x 33
theorem u_mulA (x : BitVec 64) : IntKind.u64.wrap (u x * 13787848793156543929) = u (x * 0xbf58476d1ce4e5b9#64) := u_mul x 0xbf58476d1ce4e5b9#64
theorem u_mulB (x : BitVec 64) : IntKind.u64.wrap (u x * 10723151780598845931) = u (x * 0x94d049bb133111eb#64) := u_mul x 0x94d049bb133111eb#64
theorem u_wrap (x : BitVec 64) : IntKind.u64.wrap (u x) = u x := by
  have := x.isLt
  simp only [IntKind.wrap, IntKind.bits, IntKind.signed, Bool.false_and, Bool.false_eq_true, if_false, u]
  exact Int.emod_eq_of_lt (Int.natCast_nonneg _) (by exact_mod_cast this)

set_option maxHeartbeats 400000 in
theorem digest_calls (b : Nat) (x N : BitVec 64) (n : Int) (w : World) (hb : w.heap[b]? = some (.cells #[.int .u64 (u x)] 64 (0, 0))) (hn : n = u N) :
    Calls Tryd.prog 42 #[.pointer (some ⟨b, 0, none⟩), .int .i64 n] w fun e w' => e = .returned (.int .u64 (u (fin x N))) ∧ w = w' := by
  subst hn
  have hcell := cell_of_one hb
  go_enter Tryd.func42, Tryd.ntmps42
  go_wp2
  simp only [u_wrap, u_xor, u_shr31, u_mulA, u_shr27, u_mulB, u_shr33]
  go_ret
  exact ⟨rfl, rfl⟩
end Go.Proofs.YtnlgnmlobklobaaDoor.DigA
namespace Go.Proofs.YtnlgnmlobklobaaDoor.DigB
open Go.RowKit Go.Proofs.YtnlgnmlobklobaaDoor.Dig Go.Proofs.YtnlgnmlobklobaaDoor.Tool Go.Proofs.YtnlgnmlobklobaaDoor.DigA

theorem u_w8 (b : UInt8) : u (w8 b) = (b.toNat : Int) := by
  have := b.toNat_lt
  simp only [u, w8, BitVec.toNat_ofNat]
  rw [Nat.mod_eq_of_lt (by omega)]
theorem add_any (b : Nat) (x : BitVec 64) (c : UInt8) (w : World) (hb : w.heap[b]? = some (.cells #[.int .u64 (u x)] 64 (0, 0))) :
    Calls Tryd.prog 41 #[.pointer (some ⟨b, 0, none⟩), .int .u8 (c.toNat : Int)] w fun e w' => e = .returned (.tuple #[]) ∧ OneAt b 64 (.int .u64 (u (stp x (w8 c)))) w w' := by
  have h := add_calls b x (w8 c) w hb (by have := c.toNat_lt; rw [u_w8]; omega)
  rw [u_w8] at h
  exact h
theorem take_snoc (s : ByteArray) (k : Nat) (h : k < s.size) : s.data.toList.take (k + 1) = s.data.toList.take k ++ [s[k]] := by
  rw [List.take_succ_eq_append_getElem (by simpa using h)]; rfl
theorem u_nat (n : Nat) (h : n ≤ 9223372036854775807) : (n : Int) = u (BitVec.ofNat 64 n) := by
  simp only [u, BitVec.toNat_ofNat]
  rw [Nat.mod_eq_of_lt (by omega)]

set_option maxHeartbeats 400000 in
theorem sum_any (s : ByteArray) (w : World) (hs : s.size ≤ 9223372036854775807) :
    Calls Tryd.prog 21 #[.string s] w fun e w' => e = .returned (.int .u64 (Dig.sum s)) ∧ Below w.heap.size w w' := by
  have hN := Lib.hid (u_nat s.size hs)
  go_enter Tryd.func21, Tryd.ntmps21
  go_wp2
  go_loopw [9] (fun i wr => ∃ k : Nat, k ≤ s.size ∧ i = .int .i64 k ∧ wr.heap[w.heap.size]? = some (.cells #[.int .u64 (u (state (s.data.toList.take k)))] 64 (0, 0)) ∧ Below w.heap.size w wr)
    (fun i _ => s.size - (intOf i).toNat)
  case atStart =>
    exact ⟨0, Nat.zero_le _, rfl, heap_alloc_new _ _, (Below.refl _ _).alloc (Nat.le_refl _) _⟩
  case round =>
    obtain ⟨k, hk, rfl, hb, hB⟩ := hrel
    by_cases hlt : k < s.size
    · have HS := Lib.hid (take_snoc s k hlt)
      go_wp2_with fail
      refine (add_any _ _ _ _ hb).mono ?_
      rintro e w1 ⟨rfl, h1, hg⟩
      go_wp2
      go_roundw
      case rel =>
        refine ⟨k + 1, by omega, by go_num, ?_, ?_⟩
        · rw [HS.out, state_snoc]; exact h1
        · exact hB.grown hg hB.size (fun k e => by cases e; exact Nat.le_refl _)
      case measure => simp [intOf]; omega
    · obtain rfl : k = s.size := by omega
      have hcell := cell_of_one hb
      go_wp2_with fail
      refine (digest_calls _ _ _ _ _ hb hN.out).mono ?_
      rintro e w1 ⟨rfl, rfl⟩
      go_wp2
      go_ret
      have e : s.data.toList.take s.size = s.data.toList := List.take_of_length_le (by simp)
      refine ⟨?_, hB⟩
      rw [e]
      rfl
end Go.Proofs.YtnlgnmlobklobaaDoor.DigB
namespace Go.Proofs.YtnlgnmlobklobaaDoor.Stub
open Go.RowKit Go.Proofs.YtnlgnmlobklobaaDoor

def u64ok (a : Int) : Bool := decide (0 ≤ a ∧ a ≤ 18446744073709551615)
theorem u64ok_of {a : Int} (h : u64ok a = true) : 0 ≤ a ∧ a ≤ 18446744073709551615 := by simpa [u64ok] using h

def digest_Sum.f (a0 : ByteArray) : Option Int := if a0.size ≤ 9223372036854775807 then some (Dig.sum a0) else none
theorem digest_Sum.calls (a0 : ByteArray) (r : Int) (w : World) (h : digest_Sum.f a0 = some r) :
    Calls Tryd.prog 21 #[.string a0] w fun e w' => e = .returned (.int .u64 r) ∧ Below w.heap.size w w' := by
  unfold digest_Sum.f at h
  split at h
  · cases h; exact DigB.sum_any a0 w ‹_›
  · cases h
end Go.Proofs.YtnlgnmlobklobaaDoor.Stub
namespace Go.Proofs.YtnlgnmlobklobaaDoor.Dig

theorem u_inj {x y : BitVec 64} (h : u x = u y) : x = y := BitVec.eq_of_toNat_eq (Int.ofNat.inj h)
theorem u_of {a : Int} (h0 : 0 ≤ a) (h1 : a ≤ 18446744073709551615) : ∃ x : BitVec 64, a = u x := by
  refine ⟨BitVec.ofNat 64 a.toNat, ?_⟩
  simp only [u, BitVec.toNat_ofNat]
  rw [Nat.mod_eq_of_lt (by omega)]
  omega
theorem u_range' (x : BitVec 64) : 0 ≤ u x ∧ u x ≤ 18446744073709551615 := by
  have := x.isLt
  unfold u
  omega

/-- A word and its shifted self, joined: a shift by at least half the width undoes it. -/
theorem xs_undo (x : BitVec 64) (k : Nat) (hk : 32 ≤ k) : (x ^^^ (x >>> k)) ^^^ ((x ^^^ (x >>> k)) >>> k) = x := by
  rw [BitVec.ushiftRight_xor_distrib, ← BitVec.shiftRight_add]
  have h : x >>> (k + k) = 0#64 := by
    apply BitVec.eq_of_toNat_eq
    rw [BitVec.toNat_ushiftRight, Nat.shiftRight_eq_div_pow]
    have h1 : x.toNat < 2 ^ (k + k) := Nat.lt_of_lt_of_le x.isLt (Nat.pow_le_pow_right (by decide) (by omega))
    simp [Nat.div_eq_of_lt h1]
  rw [h]
  rw [BitVec.xor_zero, BitVec.xor_assoc, BitVec.xor_self, BitVec.xor_zero]
theorem xs_undo3 (x : BitVec 64) (k : Nat) (hk : 22 ≤ k) : let y := x ^^^ (x >>> k); y ^^^ (y >>> k) ^^^ (y >>> (k + k)) = x := by
  intro y
  have e1 : y >>> k = x >>> k ^^^ x >>> (k + k) := by
    show (x ^^^ (x >>> k)) >>> k = _
    rw [BitVec.ushiftRight_xor_distrib, ← BitVec.shiftRight_add]
  have e2 : y >>> (k + k) = x >>> (k + k) := by
    show (x ^^^ (x >>> k)) >>> (k + k) = _
    rw [BitVec.ushiftRight_xor_distrib, ← BitVec.shiftRight_add]
    have h : x >>> (k + (k + k)) = 0#64 := by
      apply BitVec.eq_of_toNat_eq
      rw [BitVec.toNat_ushiftRight, Nat.shiftRight_eq_div_pow]
      have h1 : x.toNat < 2 ^ (k + (k + k)) := Nat.lt_of_lt_of_le x.isLt (Nat.pow_le_pow_right (by decide) (by omega))
      simp [Nat.div_eq_of_lt h1]
    rw [h, BitVec.xor_zero]
  rw [e1, e2]
  show x ^^^ (x >>> k) ^^^ (x >>> k ^^^ x >>> (k + k)) ^^^ x >>> (k + k) = x
  rw [BitVec.xor_assoc, BitVec.xor_assoc (x >>> k), BitVec.xor_self, BitVec.xor_zero, BitVec.xor_assoc, BitVec.xor_self, BitVec.xor_zero]
theorem xs_inj {x y : BitVec 64} (k : Nat) (hk : 22 ≤ k) (h : x ^^^ (x >>> k) = y ^^^ (y >>> k)) : x = y := by
  have hx := xs_undo3 x k hk
  have hy := xs_undo3 y k hk
  simp only at hx hy
  rw [← hx, ← hy, h]
theorem mul_inj {x y c d : BitVec 64} (hd : c * d = 1#64) (h : x * c = y * c) : x = y := by
  have e : ∀ z : BitVec 64, z * c * d = z := fun z => by rw [BitVec.mul_assoc, hd, BitVec.mul_one]
  rw [← e x, ← e y, h]
theorem xor_inj {x y c : BitVec 64} (h : x ^^^ c = y ^^^ c) : x = y := by
  have e : ∀ z : BitVec 64, z ^^^ c ^^^ c = z := fun z => by rw [BitVec.xor_assoc, BitVec.xor_self, BitVec.xor_zero]
  rw [← e x, ← e y, h]
theorem stp_inj {x y b : BitVec 64} (h : stp x b = stp y b) : x = y :=
  xor_inj (mul_inj (d := 0xce965057aff6957b#64) (by decide) (xs_inj 32 (by decide) h))
theorem stp_inj2 {x b c : BitVec 64} (h : stp x b = stp x c) : b = c := by
  have := mul_inj (d := 0xce965057aff6957b#64) (by decide) (xs_inj 32 (by decide) h)
  rw [BitVec.xor_comm x b, BitVec.xor_comm x c] at this
  exact xor_inj this
theorem fin_inj {x y n : BitVec 64} (h : fin x n = fin y n) : x = y :=
  xor_inj (xs_inj 31 (by decide) (mul_inj (d := 0x96de1b173f119089#64) (by decide) (xs_inj 27 (by decide) (mul_inj (d := 0x319642b2d24d8ec3#64) (by decide) (xs_inj 33 (by decide) h)))))
theorem w8_inj {b c : UInt8} (h : w8 b = w8 c) : b = c := by
  have h1 := congrArg BitVec.toNat h
  have hb := b.toNat_lt
  have hc := c.toNat_lt
  simp only [w8, BitVec.toNat_ofNat] at h1
  rw [Nat.mod_eq_of_lt (by omega), Nat.mod_eq_of_lt (by omega)] at h1
  exact UInt8.toNat_inj.1 h1
theorem fold_inj (t : List UInt8) : ∀ {x y : BitVec 64}, t.foldl (fun x b => stp x (w8 b)) x = t.foldl (fun x b => stp x (w8 b)) y → x = y := by
  induction t with
  | nil => intro x y h; exact h
  | cons b t ih => intro x y h; exact stp_inj (ih h)
theorem state_tail (l m t : List UInt8) : state (l ++ t) = state (m ++ t) ↔ state l = state m := by
  rw [state_append, state_append]
  exact ⟨fun h => fold_inj t h, fun h => by rw [h]⟩
theorem sumL_eq {l m : List UInt8} (h : l.length = m.length) : sumL l = sumL m ↔ state l = state m := by
  unfold sumL
  rw [h]
  exact ⟨fun e => fin_inj e, fun e => by rw [e]⟩
/-- Of two strings of one length: their digests agree exactly if they do behind a common tail. -/
theorem sumL_tail {l m : List UInt8} (t : List UInt8) (h : l.length = m.length) : sumL (l ++ t) = sumL (m ++ t) ↔ sumL l = sumL m := by
  rw [sumL_eq (by simp [h]), sumL_eq h, state_tail]
/-- One byte. -/
theorem state_byte (p t : List UInt8) (b c : UInt8) : state (p ++ b :: t) = state (p ++ c :: t) ↔ b = c := by
  have e : ∀ b, p ++ b :: t = (p ++ [b]) ++ t := fun b => by simp
  rw [e b, e c, state_tail, state_snoc, state_snoc]
  exact ⟨fun h => w8_inj (stp_inj2 h), fun h => by rw [h]⟩
theorem sumL_byte (p t : List UInt8) (b c : UInt8) : sumL (p ++ b :: t) = sumL (p ++ c :: t) ↔ b = c := by
  rw [sumL_eq (by simp), state_byte]
theorem sum_eq_iff (s t : ByteArray) : sum s = sum t ↔ sumL s.data.toList = sumL t.data.toList := ⟨fun h => u_inj h, fun h => by unfold sum; rw [h]⟩
end Go.Proofs.YtnlgnmlobklobaaDoor.Dig
