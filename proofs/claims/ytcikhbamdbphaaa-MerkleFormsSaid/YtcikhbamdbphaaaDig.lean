/- The digest of a byte string, said plainly over 64-bit words: the state's stp, the finishing, and that both lose nothing. -/
import Derived.KernelRfl
import Derived.Laws.BytesArg
namespace Go.Proofs.Ytcikhbamdbphaaa.Dig

/-- One byte more. -/
def stp (x b : BitVec 64) : BitVec 64 := let y := (x ^^^ b) * 0x100000001b3#64; y ^^^ (y >>> 32)
def st0 : BitVec 64 := 0x243f6a8885a308d3#64
def w8 (b : UInt8) : BitVec 64 := BitVec.ofNat 64 b.toNat
def state (l : List UInt8) : BitVec 64 := l.foldl (fun x b => stp x (w8 b)) st0
def fin (x n : BitVec 64) : BitVec 64 :=
  let y := x ^^^ n
  let y := y ^^^ (y >>> 31)
  let y := y * 0xbf58476d1ce4e5b9#64
  let y := y ^^^ (y >>> 27)
  let y := y * 0x94d049bb133111eb#64
  y ^^^ (y >>> 33)
/-- A word as the machine's number. -/
def u (x : BitVec 64) : Int := (x.toNat : Int)
def sumL (l : List UInt8) : BitVec 64 := fin (state l) (BitVec.ofNat 64 l.length)
def sum (s : ByteArray) : Int := u (sumL s.data.toList)

theorem state_snoc (l : List UInt8) (b : UInt8) : state (l ++ [b]) = stp (state l) (w8 b) := by simp [state]
theorem state_append (l m : List UInt8) : state (l ++ m) = m.foldl (fun x b => stp x (w8 b)) (state l) := by simp [state]

/-- The eight bytes of a word, the most significant one first. -/
def by8 (d : Int) : List Int := [d / 72057594037927936, d / 281474976710656 % 256, d / 1099511627776 % 256, d / 4294967296 % 256, d / 16777216 % 256, d / 65536 % 256, d / 256 % 256, d % 256]
/-- The string whose digest is that of two digests. -/
def pairS (a b : Int) : ByteArray := ((⟨#[1]⟩ : ByteArray) ++ strOfNums (by8 a)) ++ strOfNums (by8 b)
theorem pairS_size (a b : Int) : (pairS a b).size = 17 := by simp [pairS, ByteArray.size_append, strOfNums_size, by8]; rfl

/-- The digits' bytes. -/
def hexL : List Int := [48, 49, 50, 51, 52, 53, 54, 55, 56, 57, 97, 98, 99, 100, 101, 102]
/-- The byte of digit j of a word. -/
def hx (d : Int) (j : Nat) : Int := hexL.getD (d / 2 ^ (60 - 4 * j) % 16).toNat 0
def textL (d : Int) : List Int := (List.range 16).map (hx d)
def text (d : Int) : ByteArray := strOfNums (textL d)
theorem text_size (d : Int) : (text d).size = 16 := by simp [text, textL, strOfNums_size]
/-- The digits' cells when k of them are written. -/
def textC (d : Int) (k : Nat) : List Int := (List.range 16).map fun j => if j < k then hx d j else 0
theorem textC_zero (d : Int) : textC d 0 = List.replicate 16 0 := rfl
theorem textC_full (d : Int) : textC d 16 = textL d := by
  unfold textC textL
  exact List.map_congr_left (fun j hj => by rw [if_pos (by simpa using hj)])
theorem textC_succ (d : Int) (k : Nat) (hk : k < 16) : textC d (k + 1) = (textC d k).set k (hx d k) := by
  unfold textC
  apply List.ext_getElem?
  intro i
  rw [List.getElem?_set]
  by_cases hi : i < 16
  · by_cases e : k = i
    · subst e; simp [hi]
    · rw [if_neg e]
      simp only [List.getElem?_map, List.getElem?_range hi, Option.map_some]
      by_cases h1 : i < k
      · rw [if_pos h1, if_pos (by omega)]
      · rw [if_neg h1, if_neg (by omega)]
  · have e : ¬ k = i := by omega
    rw [if_neg e]
    simp [hi]

/-- The first of the first k digits whose byte is c. -/
def fnd (c : Int) (k : Nat) : Option Nat := (List.range k).find? (fun j => hexL.getD j 0 == c)
def parseL : List UInt8 → Int → Option Int
  | [], d => some d
  | b :: r, d => match fnd b.toNat 16 with
    | none => none
    | some j => parseL r (d * 16 + j)
/-- The digest with a text, and the error. -/
def parse (s : ByteArray) : Int × Int := if s.size = 16 then (match parseL s.data.toList 0 with | some d => (d, 0) | none => (0, 12)) else (0, 12)
theorem fnd_lt {c : Int} {k j : Nat} (h : fnd c k = some j) : j < k ∧ hexL.getD j 0 = c := by
  have h1 := List.mem_of_find?_eq_some h
  have h2 := List.find?_some h
  exact ⟨by simpa using h1, by simpa using h2⟩
theorem hex_ne : ∀ k, k < 16 → ∀ j, j < k → ¬ hexL.getD j 0 = hexL.getD k 0 := by decide
theorem fnd_hit {c : Int} {k : Nat} (hk : k < 16) (h : hexL.getD k 0 = c) : fnd c k = none ∧ fnd c (k + 1) = some k := by
  have h0 : fnd c k = none := by
    cases e : fnd c k with
    | none => rfl
    | some j => exact absurd ((fnd_lt e).2.trans h.symm) (hex_ne k hk j (fnd_lt e).1)
  refine ⟨h0, ?_⟩
  unfold fnd at h0 ⊢
  rw [List.range_succ, List.find?_append, h0]
  simp only [Option.none_or, List.find?_cons, h, beq_self_eq_true]
theorem fnd_miss {c : Int} {k : Nat} (h : ¬ hexL.getD k 0 = c) : fnd c (k + 1) = fnd c k := by
  have h' : (hexL.getD k 0 == c) = false := beq_eq_false_iff_ne.mpr h
  unfold fnd
  rw [List.range_succ, List.find?_append]
  simp only [List.find?_cons, h', List.find?_nil, Option.or_none]

end Go.Proofs.Ytcikhbamdbphaaa.Dig
