/- merkle.node walked: the byte string of a node. -/
import Derived.Test.YtcikhbamdbphaaaMerB
set_option linter.unusedSimpArgs false
set_option linter.unusedVariables false
namespace Go.Proofs.Ytcikhbamdbphaaa.MerN
open Go.RowKit Go.Shelf Go.Proofs.Ytcikhbamdbphaaa.MerA Go.Proofs.Ytcikhbamdbphaaa.Dig
theorem infoB : (Try.prog.info? 5).map (fun i => (i.zero, i.size, i.bytes)) = some (some (.int .u8 0), 1, 1) := by kernel_rfl
def pre (a b : Int) : Nat → List Int
  | 0 => [1]
  | 1 => 1 :: by8 a
  | _ => 1 :: (by8 a ++ by8 b)
def dig (a b : Int) : Nat → Int
  | 0 => a
  | _ => b
theorem by8_take (d : Int) (xs : List Int) (j : Nat) (hj : j < 8) : (xs ++ (by8 d).take j) ++ [Tool.rdI (by8 d) j] = xs ++ (by8 d).take (j + 1) := by
  have h : (by8 d)[j]? = some (Tool.rdI (by8 d) j) := by
    rw [Tool.rdI, List.getD_eq_getElem?_getD, List.getElem?_eq_getElem (by simpa [by8] using hj)]; rfl
  rw [List.take_add_one, h, List.append_assoc]; rfl
theorem conv_row {P : Program} {W : World} {src e dst : TypeId} (hs : P.underlying src = some (.slice e)) (he : P.underlying e = some (.int .u8)) (hd : P.underlying dst = some .string)
    {base n : Nat} {v : Value} {xs : List Int} (hn : xs.length = n) (h0 : 0 < n) (h : W.ownsRow base e 1 v n (xs.map (Value.int .u8))) :
    ∃ g cap, v = .slice (some ⟨g, 0, none⟩) n cap ∧ (convert src dst (.slice (some ⟨g, 0, none⟩) n cap)).run P W = .ok (.string (strOfNums xs)) W := by
  rcases h.2 with ⟨_, h⟩ | ⟨g, cap, cur, h1, h2, h3, h4, h5, h6, h7⟩
  · omega
  · refine ⟨g, cap, h1, run_convert_bytes_arg W src e hs he g 0 n cap xs hn (fun i hi => ?_) dst hd⟩
    rw [Nat.zero_add, Tool.cell_blk h3]
    have : (cur.toList.take (n * 1))[i]? = (xs.map (Value.int .u8))[i]? := by rw [h7]
    rw [Nat.mul_one, List.getElem?_take_of_lt (by omega), List.getElem?_map, Array.getElem?_toList] at this
    rw [this]
    have hi' : i < xs.length := by omega
    simp [hi']
theorem nums_append (xs ys : List Int) : strOfNums (xs ++ ys) = strOfNums xs ++ strOfNums ys := by
  apply ByteArray.ext
  simp [strOfNums, ByteArray.data_append]
theorem pre_str (a b : Int) : strOfNums (pre a b 2) = pairS a b := by
  show strOfNums ([1] ++ (by8 a ++ by8 b)) = _
  rw [nums_append, nums_append, pairS, ← ByteArray.append_assoc]; rfl
theorem index0 (a b : Int) (w : World) : (Instr.index 79 (.agg #[.int .u64 a, .int .u64 b]) (.int .i64 0)).run Try.prog w = .ok (.int .u64 a) w := rfl
theorem index1 (a b : Int) (w : World) : (Instr.index 79 (.agg #[.int .u64 a, .int .u64 b]) (.int .i64 1)).run Try.prog w = .ok (.int .u64 b) w := rfl
set_option maxHeartbeats 4000000 in
theorem node_any (a b : Int) (ha : 0 ≤ a ∧ a ≤ 18446744073709551615) (hb : 0 ≤ b ∧ b ≤ 18446744073709551615) (w : World) :
    Calls Try.prog 42 #[.int .u64 a, .int .u64 b] w fun e w' => e = .returned (.string (pairS a b)) ∧ Below w.heap.size w w' := by
  obtain ⟨ha0, ha1⟩ := ha
  obtain ⟨hb0, hb1⟩ := hb
  obtain ⟨i0, hi0, hz0, hz1, hz2⟩ := info_parts infoB
  have HI := Lib.hid hi0; have HZ0 := Lib.hid hz0; have HZ1 := Lib.hid hz1; have HZ2 := Lib.hid hz2
  clear hi0 hz0 hz1 hz2
  go_enter Try.func42, Try.ntmps42
  go_wp2
  go_loopw [5, 7, 8, 13] (fun v5 v7 v8 v13 wr => ∃ k : Int, 0 ≤ k ∧ k ≤ 2 ∧ v13 = .int .i64 k ∧ wr.ownsRow w.heap.size 5 1 v5 (pre a b k.toNat).length ((pre a b k.toNat).map (Value.int .u8)) ∧ Below w.heap.size w wr)
    (fun _ _ _ v13 _ => (2 - intOf v13).toNat)
  case atStart =>
    refine ⟨0, by omega, by omega, rfl, ?_, (Below.refl _ _).alloc (Nat.le_refl _) _⟩
    exact ⟨by simp [pre], .inr ⟨w.heap.size, 1, #[.int .u8 1], rfl, Nat.le_refl _, World.alloc_heap_new _ _, by simp [pre], by decide, rfl, by simp [pre]⟩⟩
  case round =>
    obtain ⟨k, hk0, hk, rfl, how, hB⟩ := hrel
    obtain rfl | rfl | rfl : k = 0 ∨ k = 1 ∨ k = 2 := by omega
    · have how1 : wr.ownsRow w.heap.size 5 1 u5 (pre a b 0).length ((pre a b 0).map (Value.int .u8)) := how
      clear how
      have ix := index0 a b wr
      go_wp2
      clear ix
      go_loopw [5, 8, 16] (fun v5 v8 v16 wr' => ∃ j : Int, 0 ≤ j ∧ j ≤ 8 ∧ v16 = .int .i64 j ∧ wr'.ownsRow w.heap.size 5 1 v5 ((pre a b 0).length + j.toNat) ((pre a b 0 ++ (by8 a).take j.toNat).map (Value.int .u8)) ∧ Below w.heap.size w wr')
        (fun _ _ v16 _ => (8 - intOf v16).toNat)
      case atStart => exact ⟨0, by omega, by omega, rfl, by simpa using how1, hB⟩
      case round =>
        obtain ⟨j, hj0, hj, rfl, how2, hB2⟩ := hrel
        clear how1 hB
        have hbw := hB2.size
        by_cases hj8 : j < 8
        · obtain rfl | rfl | rfl | rfl | rfl | rfl | rfl | rfl : j = 0 ∨ j = 1 ∨ j = 2 ∨ j = 3 ∨ j = 4 ∨ j = 5 ∨ j = 6 ∨ j = 7 := by omega
          all_goals
            go_wp2_with (at_builtin; refine wpList_append_own _ rfl _ _ 68 rfl w.heap.size 5 i0 (.int .u8 0) 1 1 Try.underlying68 HI.out HZ0.out HZ1.out HZ2.out rfl (by decide) _ _ _ rfl (how2.alloc _) ⟨wr.heap.size, 0, none⟩ 1 1 [_] rfl rfl (cell_one_new _ _ _) (by simp [Value.oneCell']) (by simp [pre, by8, maxLen]) (by simp [pre, by8]) (by simp; omega) ?_; intro v' w1 hown' hgrow hnil; clear hnil)
            go_roundw
            case rel =>
              refine ⟨_, ?_, ?_, rfl, ?_, (hB2.alloc hbw _).grown hgrow (by simp; omega) (fun k e => (how2.lt k e).1)⟩
              · decide
              · decide
              · exact hown'
            case measure => simp [intOf]
        · obtain rfl : j = 8 := by omega
          go_wp2
          go_roundw
          case rel => exact ⟨_, by decide, by decide, rfl, how2, hB2⟩
          case measure => simp [intOf]
    · have how1 : wr.ownsRow w.heap.size 5 1 u5 (pre a b 1).length ((pre a b 1).map (Value.int .u8)) := how
      clear how
      have ix := index1 a b wr
      go_wp2
      clear ix
      go_loopw [5, 8, 16] (fun v5 v8 v16 wr' => ∃ j : Int, 0 ≤ j ∧ j ≤ 8 ∧ v16 = .int .i64 j ∧ wr'.ownsRow w.heap.size 5 1 v5 ((pre a b 1).length + j.toNat) ((pre a b 1 ++ (by8 b).take j.toNat).map (Value.int .u8)) ∧ Below w.heap.size w wr')
        (fun _ _ v16 _ => (8 - intOf v16).toNat)
      case atStart => exact ⟨0, by omega, by omega, rfl, by simpa using how1, hB⟩
      case round =>
        obtain ⟨j, hj0, hj, rfl, how2, hB2⟩ := hrel
        clear how1 hB
        have hbw := hB2.size
        by_cases hj8 : j < 8
        · obtain rfl | rfl | rfl | rfl | rfl | rfl | rfl | rfl : j = 0 ∨ j = 1 ∨ j = 2 ∨ j = 3 ∨ j = 4 ∨ j = 5 ∨ j = 6 ∨ j = 7 := by omega
          all_goals
            go_wp2_with (at_builtin; refine wpList_append_own _ rfl _ _ 68 rfl w.heap.size 5 i0 (.int .u8 0) 1 1 Try.underlying68 HI.out HZ0.out HZ1.out HZ2.out rfl (by decide) _ _ _ rfl (how2.alloc _) ⟨wr.heap.size, 0, none⟩ 1 1 [_] rfl rfl (cell_one_new _ _ _) (by simp [Value.oneCell']) (by simp [pre, by8, maxLen]) (by simp [pre, by8]) (by simp; omega) ?_; intro v' w1 hown' hgrow hnil; clear hnil)
            go_roundw
            case rel =>
              refine ⟨_, ?_, ?_, rfl, ?_, (hB2.alloc hbw _).grown hgrow (by simp; omega) (fun k e => (how2.lt k e).1)⟩
              · decide
              · decide
              · exact hown'
            case measure => simp [intOf]
        · obtain rfl : j = 8 := by omega
          go_wp2
          go_roundw
          case rel => exact ⟨_, by decide, by decide, rfl, how2, hB2⟩
          case measure => simp [intOf]
    · obtain ⟨g, cap, rfl, hc⟩ := conv_row (P := Try.prog) Try.underlying68 Try.underlying5 Try.underlying9 (xs := pre a b 2) rfl (by simp [pre, by8]) how
      rw [show (pre a b 2).length = 17 from rfl, pre_str] at hc
      rw [show (pre a b 2).length = 17 from rfl]
      go_wp2
      go_ret
      exact ⟨rfl, hB⟩
end Go.Proofs.Ytcikhbamdbphaaa.MerN
