/- rangeproof.hash walked: a word and numbers, each behind a space, in decimal digits; the digest modulo the order. -/
import Derived.Test.YtnlgnmlobklobaaDoorLay27
import Derived.Test.YtnlgnmlobklobaaDoorDigX
import Derived.Test.YtnlgnmlobklobaaDoorGrpX
import Derived.Lib.AppendIntMem
import Derived.Lib.ItoaLen
import Derived.Lib.Hide
import Derived.WalkKit
import Derived.WalkMore
import Derived.BigCall
import Derived.LoopN
set_option linter.unusedSimpArgs false
set_option linter.unusedVariables false
set_option maxRecDepth 100000
namespace Go.Proofs.YtnlgnmlobklobaaDoor.Hash
open Go.RowKit Go.Shelf Go.Proofs.YtnlgnmlobklobaaDoor
/-- The text. -/
def txt (word : ByteArray) (ns : List Int) : List UInt8 := word.data.toList ++ ns.flatMap fun n => 32 :: Lib.itoa n
def hsh (word : ByteArray) (ns : List Int) : Int := Dig.sum ⟨(txt word ns).toArray⟩ % 1073741789
/-- The numbers in the heap. -/
def Nums (w : World) (A : Option Addr) (ns : List Int) : Prop := 0 < ns.length → ∃ ad, A = some ad ∧ ad.block < w.heap.size ∧ ∀ (i : Nat) n, ns[i]? = some n → w.cell? (ad.add i) = some (.int .i64 n)
theorem hash_any (word : ByteArray) (A : Option Addr) (ns : List Int) (c : Nat) (w : World) (hA : Nums w A ns) (hns : ∀ n ∈ ns, -9223372036854775808 ≤ n ∧ n ≤ 9223372036854775807) (hl : ns.length ≤ 1000) (hw : word.size ≤ 1000000000)
    (hT : Lib.TabIs Tryd.prog w "internal/strconv.uint64pow10" .u64 Lib.pow10Tab) :
    Calls Tryd.prog 24 #[.string word, .slice A ns.length c] w fun e w' => e = .returned (.int .i64 (hsh word ns)) ∧ Below w.heap.size w w' := by
  have hTB := Lib.tabBelow_of_tabIs hT
  clear hT
  go_enter Tryd.func24, Tryd.ntmps24
  have f0 := Lib.fresh_isBuilder 70 5 w
  have b0 := (Below.refl w.heap.size w).alloc (Nat.le_refl _) (.cells #[.pointer none, .slice none 0 0] 70)
  go_wp2_with (go_at_call 43; refine (YtnlgnmlobklobaaDoor.write_string w.heap.size w.heap.size _ word _ f0 (by simp; omega) (by simp)).mono ?_; rintro e w1 ⟨rfl, h1, b1⟩)
  have hb1 := b0.trans b1
  have e1 : ([] : List Value) ++ Lib.strCells word = Lib.byteCells (txt word (ns.take 0)) := by simp [txt]; rfl
  rw [e1] at h1
  clear b0 b1 f0 e1
  go_loopw [12] (fun v wr => ∃ (i : Nat), v = .int .i64 (i : Int) ∧ i ≤ ns.length ∧ Lib.IsBuilder 70 5 w.heap.size w.heap.size (Lib.byteCells (txt word (ns.take i))) wr ∧ Below w.heap.size w wr ∧ (txt word (ns.take i)).length ≤ word.size + 22 * i) (fun v _ => ns.length - (intOf v).toNat)
  case atStart => exact ⟨0, rfl, Nat.zero_le _, h1, hb1, by simp [txt]⟩
  case round =>
    obtain ⟨i, rfl, hi, hI, hb, hln⟩ := hrel
    by_cases hlt : i < ns.length
    · obtain ⟨ad, rfl, had, hc⟩ := hA (by omega)
      have hcell : wr.cell? (ad.add i) = some (.int .i64 ns[i]) := (hb.cell (by rw [show (ad.add i).block = ad.block from by unfold Addr.add; split <;> rfl]; exact had)).trans (hc i _ (List.getElem?_eq_getElem hlt))
      have hr := hns _ (List.getElem_mem hlt)
      have hit := Lib.itoa_length_le ns[i] hr.1 hr.2
      have hsz := hb.size
      go_wp2_with (go_at_call 44; refine (YtnlgnmlobklobaaDoor.write_byte w.heap.size w.heap.size _ 32 _ hI (by rw [Lib.byteCells_length]; omega) hsz).mono ?_; rintro e w2 ⟨rfl, h2, b2⟩; refine Hid.out ?_)
      refine Lib.hid ?_
      have hb2 := hb.trans b2
      have hT2 := (hTB.on hb2).here
      have e2 : Lib.byteCells (txt word (ns.take i)) ++ [Value.int .u8 32] = Lib.byteCells (txt word (ns.take i) ++ [32]) := by simp [Lib.byteCells]
      rw [e2] at h2
      have hsz2 := hb2.size
      clear hI e2 b2 hb hcell
      go_wp2_with (go_at_call 45; refine (YtnlgnmlobklobaaDoor.itoa_b ns[i] hr.1 hr.2 w2 hT2).mono ?_; rintro e w3 ⟨rfl, b3⟩; refine Hid.out ?_)
      refine Lib.hid ?_
      have h3 := YtnlgnmlobklobaaDoor.builder_old h2 b3
      have hb3 := hb2.trans (b3.mono hsz2)
      have hsz3 := hb3.size
      clear h2 b3 hb2 hT2
      have hlen : (Lib.byteCells (txt word (ns.take i) ++ [32])).length + (⟨(Lib.itoa ns[i]).toArray⟩ : ByteArray).size ≤ 140737488355328 := by
        rw [Lib.byteCells_length, List.length_append, List.length_singleton]
        show _ + (Lib.itoa ns[i]).toArray.size ≤ _
        rw [List.size_toArray]; omega
      go_wp2_with (go_at_call 43; refine Hid.out ?_)
      refine Lib.hid ?_
      refine (YtnlgnmlobklobaaDoor.write_string w.heap.size w.heap.size _ ⟨(Lib.itoa ns[i]).toArray⟩ w3 h3 hlen hsz3).mono ?_
      rintro e w4 ⟨rfl, h4, b4⟩
      have e4 : Lib.byteCells (txt word (ns.take i) ++ [32]) ++ Lib.strCells ⟨(Lib.itoa ns[i]).toArray⟩ = Lib.byteCells (txt word (ns.take (i + 1))) := by
        rw [Lib.strCells_toArray, ← Lib.byteCells_append]
        congr 1
        unfold txt
        rw [List.take_add_one, List.getElem?_eq_getElem hlt, List.flatMap_append]
        simp
      rw [e4] at h4
      have hb4 := hb3.trans b4
      have hln4 : (txt word (ns.take (i + 1))).length ≤ word.size + 22 * (i + 1) := by
        unfold txt at hln ⊢
        rw [List.take_add_one, List.getElem?_eq_getElem hlt, List.flatMap_append]
        simp at hln ⊢
        omega
      clear e4 h3 b4 hb3
      go_wp2
      go_roundw
      case rel => exact ⟨i + 1, by go_num, by omega, h4, hb4, hln4⟩
      case measure => simp [intOf]; omega
    · obtain rfl : i = ns.length := by omega
      rw [List.take_length] at hI hln
      go_wp2_with (first | (go_at_call 46; refine (YtnlgnmlobklobaaDoor.string_of w.heap.size w.heap.size _ wr hI hb.size).mono ?_; rintro e w5 ⟨rfl, b5⟩; refine Hid.out ?_))
      refine Lib.hid ?_
      have hb5 := hb.trans b5
      have hds : (⟨(txt word ns).toArray⟩ : ByteArray).size ≤ 9223372036854775807 := by
        show (txt word ns).toArray.size ≤ _
        rw [List.size_toArray]; omega
      go_wp2_with (first | (go_at_call 21; refine (DigB.sum_any ⟨(txt word ns).toArray⟩ w5 hds).mono ?_; rintro e w6 ⟨rfl, b6⟩; refine Hid.out ?_))
      refine Lib.hid ?_
      have hb6 := hb5.trans (b6.mono hb5.size)
      have hd : 0 ≤ Dig.sum ⟨(txt word ns).toArray⟩ ∧ Dig.sum ⟨(txt word ns).toArray⟩ ≤ 18446744073709551615 := DigA.u_range _
      obtain ⟨d, hdd⟩ : ∃ d, Dig.sum ⟨(txt word ns).toArray⟩ = d := ⟨_, rfl⟩
      rw [hdd] at hd ⊢
      have HD := Lib.hid hdd
      obtain ⟨hd0, hd1⟩ := hd
      clear hdd hds hI
      go_wp2
      go_ret
      refine ⟨?_, hb6⟩
      unfold hsh
      rw [HD.out]
      rfl
/-- The library's table of powers of ten, as a premise on the world (tab.py: 'Ten'). -/
def TabTen (W : World) : Prop := Lib.TabIs Tryd.prog W "internal/strconv.uint64pow10" .u64 Lib.pow10Tab
theorem TabTen.below {w W : World} (h : TabTen w) (hb : Below w.heap.size w W) : TabTen W := ((Lib.tabBelow_of_tabIs h).on hb).here
theorem hsh_range (word : ByteArray) (ns : List Int) : 0 ≤ hsh word ns ∧ hsh word ns < 1073741789 := by
  unfold hsh
  generalize Dig.sum _ = d
  omega
end Go.Proofs.YtnlgnmlobklobaaDoor.Hash
