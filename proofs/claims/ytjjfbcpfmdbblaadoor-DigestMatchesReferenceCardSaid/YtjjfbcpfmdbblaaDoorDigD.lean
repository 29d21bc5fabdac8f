/- The walk of digest.Text; what the table of the digits' bytes holds. -/
import Derived.Test.YtjjfbcpfmdbblaaDoorDigC
namespace Go.Proofs.YtjjfbcpfmdbblaaDoor.DigD
open Go.RowKit Go.Proofs.YtjjfbcpfmdbblaaDoor.Dig Go.Proofs.YtjjfbcpfmdbblaaDoor.Tool

/-- The table of the digits' bytes lies in its variable. -/
def TabHex (W : World) : Prop := ∀ j, j < 16 → W.cell? ⟨0, j, none⟩ = some (.int .u8 (rdI hexL j))
theorem TabHex.below {w W : World} (h : TabHex w) (hb : Below w.heap.size w W) : TabHex W := fun j hj => (hb.cell (World.block_lt_of_cell? w _ (h j hj))).trans (h j hj)
theorem TabHex.lt {w : World} (h : TabHex w) : 0 < w.heap.size := World.block_lt_of_cell? w _ (h 0 (by decide))

set_option maxHeartbeats 1000000 in
theorem text_any (d : Int) (hd : 0 ≤ d ∧ d ≤ 18446744073709551615) (w : World) (hT : TabHex w) :
    Calls Tryd.prog 16 #[.int .u64 d] w fun e w' => e = .returned (.string (Dig.text d)) ∧ Below w.heap.size w w' := by
  go_enter Tryd.func16, Tryd.ntmps16
  go_wp2
  go_loopw [5] (fun i wr => ∃ k : Nat, k ≤ 16 ∧ i = .int .i64 k ∧ wr.heap[w.heap.size]? = some (.cells ((textC d k).map (Value.int .u8)).toArray 41 (0, 0)) ∧ Below w.heap.size w wr)
    (fun i _ => 16 - (intOf i).toNat)
  case atStart =>
    exact ⟨0, Nat.zero_le _, rfl, heap_alloc_new _ _, (Below.refl _ _).alloc (Nat.le_refl _) _⟩
  case round =>
    obtain ⟨k, hk, rfl, hb, hB⟩ := hrel
    by_cases hlt : k < 16
    · have he : bits .and .u64 (d / 2 ^ (60 - 4 * k)) 15 = ((d / 2 ^ (60 - 4 * k) % 16).toNat : Int) := by
        have h0 : 0 ≤ d / 2 ^ (60 - 4 * k) := Int.ediv_nonneg hd.1 (Int.le_of_lt (Int.pow_pos (by decide)))
        have h1 : d / 2 ^ (60 - 4 * k) ≤ 18446744073709551615 := Int.le_trans (Int.ediv_le_self _ hd.1) hd.2
        have h2 := and_mask (d / 2 ^ (60 - 4 * k)) h0 h1 4 (by decide)
        rw [Int.toNat_of_nonneg (Int.emod_nonneg _ (by decide))]
        exact h2
      generalize hm : (d / 2 ^ (60 - 4 * k) % 16).toNat = m at *
      have hm16 : m < 16 := by omega
      have hc := (hT.below hB) m hm16
      have hx' : hx d k = rdI hexL m := by unfold hx; rw [hm]; rfl
      have Hx := Lib.hid hx'
      clear hm hx'
      have hfree := free_blk hb k
      have hold : wr.cell? ⟨w.heap.size, k, none⟩ = some (.int .u8 ((textC d k).getD k 0)) := by
        rw [cell_blk hb]
        have : k < (textC d k).length := by simp [textC]; omega
        simp [this]
      go_wp2
      go_roundw
      case rel =>
        refine ⟨k + 1, by omega, by go_num, ?_, hB.setCell (p := ⟨w.heap.size, k, none⟩) (Nat.le_refl _) _⟩
        rw [set_blk hb, textC_succ d k hlt, ← Hx.out]
        simp
      case measure => simp [intOf]; omega
    · obtain rfl : k = 16 := by omega
      rw [textC_full] at hb
      have c1 := conv_blk (P := Tryd.prog) Tryd.underlying33 Tryd.underlying5 Tryd.underlying9 (xs := textL d) 16 16 (by simp [textL]) hb
      go_wp2
      go_ret
      exact ⟨rfl, hB⟩
end Go.Proofs.YtjjfbcpfmdbblaaDoor.DigD
