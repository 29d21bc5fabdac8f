/- The closure of merkle.rows walked over any loop that keeps its row. -/
import Derived.Test.YtcikhbamdbphaaaMer
import Derived.Test.YtcikhbamdbphaaaRf
import Derived.RangeFuncNested
import Derived.RangeFuncBound
import Derived.RangeFuncCalls
import Derived.RangeFuncLeaves
import Derived.Shelf.Abstract
import Derived.Shelf.RegionOpen
import Derived.WalkKit
import Derived.OwnWalkIn
import Derived.TacticsInMore
import Derived.LoopNIn
import Derived.LoopIn
import Derived.Maps.AppendAt
import Derived.IntWalk
import Derived.Deep.RegionHeld3
import Derived.Deep.AppendLies
namespace Go.Proofs.Ytcikhbamdbphaaa.MerA
open Go.RowKit Go.Shelf
attribute [local go_sem] Oper.semAt_some
theorem infoD : (Try.prog.info? 24).map (fun i => (i.zero, i.size, i.bytes)) = some (some (.int .u64 0), 1, 8) := by kernel_rfl
theorem make_row (w : World) (m : Nat) (hm : m ≤ 1024) : (Instr.makeSlice 53 (.int .i64 (m : Int)) (.int .i64 (m : Int))).run Try.prog w =
    .ok (.slice (some ⟨w.heap.size, 0, none⟩) m m) (w.alloc (.cells (Array.replicate m (Value.int .u64 0)) 24)) := by
  obtain ⟨i0, hi, hz0, hz1, hz2⟩ := info_parts infoD
  have h := run_makeSlice (P := Try.prog) (w := w) 53 24 i0 (.int .u64 0) Try.underlying53 hi hz0 .i64 .i64 (m : Int) (m : Int) (by omega) (by omega) (by rw [hz1]; omega) (by rw [hz2]; omega) (by omega)
  rw [h]
  simp only [Int.toNat_natCast, hz1]
  have : madeCells (Value.int .u64 0).cells (m * 1) = (Array.replicate m (Value.int .u64 0)) := by
    unfold madeCells
    apply Array.ext
    · simp
    · intro i h1 h2
      simp [Value.cells, Nat.mod_one]
  rw [this]
theorem leafText_any (s : ByteArray) (hs : s.size ≤ 140737488351232) (w : World) : Calls Try.prog 38 #[.string s] w fun e w' => e = .returned (.string (Mer.leafText s)) ∧ w' = w := by
  go_enter Try.func38, Try.ntmps38
  have h1 : (1 : Nat) + s.size ≤ 9223372036854775807 := by omega
  go_wp2
  go_ret
  exact ⟨rfl, rfl⟩
theorem leafText_size (s : ByteArray) : (Mer.leafText s).size = 1 + s.size := by unfold Mer.leafText; rw [ByteArray.size_append]; rfl
theorem take_set_succ {rs fs : List Int} {i : Nat} {x : Int} (h : rs.take i = fs.take i) (hi : i < rs.length) (hf : fs[i]? = some x) : (rs.set i x).take (i + 1) = fs.take (i + 1) := by
  rw [List.take_add_one, List.take_add_one, List.take_set_of_le (Nat.le_refl i), h, hf, List.getElem?_set_self hi]
theorem add_block (a : Addr) (i : Nat) : (a.add i).block = a.block := by unfold Addr.add; split <;> rfl
/-- A block's cells begin with a row of digests. -/
def RowAt (W : World) (b : Nat) (row : List Int) (cap : Nat) : Prop := ∃ cur : Array Value, W.heap[b]? = some (.cells cur 24 (0, 0)) ∧ row.length ≤ cap ∧ cap ≤ maxLen ∧ cur.size = cap ∧ cur.toList.take row.length = row.map (Value.int .u64)
theorem row_cell {W : World} {b cap : Nat} {row : List Int} (h : RowAt W b row cap) (m : Nat) (hm : m < row.length) : W.cell? ⟨b, m, none⟩ = some (.int .u64 row[m]) := by
  obtain ⟨cur, h1, h2, h3, h4, h5⟩ := h
  rw [Tool.cell_blk h1]
  have : (cur.toList.take row.length)[m]? = (row.map (Value.int .u64))[m]? := by rw [h5]
  rw [List.getElem?_take_of_lt hm, List.getElem?_map, List.getElem?_eq_getElem hm, Array.getElem?_toList] at this
  exact this
theorem row_below {W W' : World} {b cap : Nat} {row : List Int} (h : RowAt W b row cap) (hb : Below W.heap.size W W') : RowAt W' b row cap := by
  obtain ⟨cur, h1, h2⟩ := h
  exact ⟨cur, (hb.block _ (lt_of_block h1)).trans h1, h2⟩
theorem owns_below {W W' : World} {base : Nat} {e : TypeId} {size : Nat} {v : Value} {k : Nat} {xs : List Value} (h : W.ownsRow base e size v k xs) (hb : Below W.heap.size W W') : W'.ownsRow base e size v k xs := by
  refine ⟨h.1, ?_⟩
  rcases h.2 with h | ⟨g, cap, cur, h1, h2, h3, h4⟩
  · exact .inl h
  · exact .inr ⟨g, cap, cur, h1, h2, (hb.block _ (lt_of_block h3)).trans h3, h4⟩
theorem owns_row {W : World} {base : Nat} {v : Value} {k : Nat} {row : List Int} (hk : row.length = k) (h0 : 0 < k) (h : W.ownsRow base 24 1 v k (row.map (Value.int .u64))) :
    ∃ b cap, v = .slice (some ⟨b, 0, none⟩) row.length cap ∧ base ≤ b ∧ RowAt W b row cap := by
  rcases h.2 with ⟨_, h⟩ | ⟨g, cap, cur, h1, h2, h3, h4, h5, h6, h7⟩
  · omega
  · subst hk
    exact ⟨g, cap, h1, h2, cur, h3, h4, h5, by omega, by simpa using h7⟩
theorem far_new {w w1 : World} {x : Obj} {row : Option Nat} {b i : Nat} {v : Value} (hg : (w.alloc x).grownBy w1 row) (hne : some b ≠ row) (hb : b < w.heap.size) (h : w.cell? ⟨b, i, none⟩ = some v) : w1.cell? ⟨b, i, none⟩ = some v :=
  (hg.cell_far ⟨b, i, none⟩ (by simp; omega) hne).trans ((World.grownBy_alloc w x none).cell h (by simp))
set_option maxHeartbeats 1000000 in
theorem rows1_any (l B : Nat) (n : Nat) (hn : 5 ≤ n) (w : World) (J : Nat → World → Prop) (h0 : J 0 w) (ls : List ByteArray)
    (hY : ∀ (i : Nat) (W0 W : World) (b cap : Nat), J i W0 → Below W0.heap.size W0 W → W0.heap.size ≤ b → RowAt W b (Mer.rowN (ls.map Mer.leaf) i) cap → 0 < (Mer.rowN (ls.map Mer.leaf) i).length → (Mer.rowN (ls.map Mer.leaf) i).length ≤ 1024 → (∀ j, j < i → 1 < (Mer.rowN (ls.map Mer.leaf) j).length) →
      YieldAt Fence.wide (n - 1) Try.prog l #[.slice (some ⟨b, 0, none⟩) (Mer.rowN (ls.map Mer.leaf) i).length cap] W fun e W' => e = .returned (.bool true) ∧ J (i + 1) W' ∧ W'.heap[b]? = W.heap[b]? ∧ w.heap.size ≤ W'.heap.size) (hB : B < w.heap.size) (ad : Addr) (c : Nat) (hbx : w.cell? ⟨B, 0, none⟩ = some (.slice (some ad) ls.length c)) (hL : ∀ (i : Nat) s, ls[i]? = some s → w.cell? (ad.add i) = some (.string s)) (had : ad.block < w.heap.size) (hsz : ∀ s ∈ ls, s.size ≤ 140737488351232) (hlen : ls.length ≤ 1024) (hpos : 0 < ls.length) :
    CallsIn Fence.wide n Try.prog 37 #[.func (.yield l) #[] #[], .pointer (some ⟨B, 0, none⟩)] w fun e w' => (∃ v, e = .returned v) ∧ ∃ i, (Mer.rowN (ls.map Mer.leaf) i).length ≤ 1 ∧ (∀ j, j < i → 1 < (Mer.rowN (ls.map Mer.leaf) j).length) ∧ J (i + 1) w' := by
  refine callsIn_of_wp Try.func37 rfl trivial ?_ rfl
  simp only [Try.ntmps37, List.size_toArray, List.length_cons, List.length_nil, Nat.reduceAdd, Nat.reduceSub, Array.replicate_succ, Array.replicate_zero, List.push_toArray, List.append_toArray, List.nil_append, List.cons_append]
  have hmk := make_row w ls.length hlen
  have hb1 := (Below.refl w.heap.size w).alloc (Nat.le_refl _) (.cells (Array.replicate ls.length (Value.int .u64 0)) 24)
  have hbx1 : (w.alloc (.cells (Array.replicate ls.length (Value.int .u64 0)) 24)).cell? ⟨B, 0, none⟩ = some (.slice (some ad) ls.length c) := (hb1.cell (p := ⟨B, 0, none⟩) hB).trans hbx
  gi_wp2
  gi_loopw [13] (fun v wr => ∃ (i : Nat) (rs : List Int), v = .int .i64 i ∧ i ≤ ls.length ∧ rs.length = ls.length ∧ rs.take i = (ls.map Mer.leaf).take i ∧ wr.heap[w.heap.size]? = some (.cells (rs.map (Value.int .u64)).toArray 24 (0, 0)) ∧ Below w.heap.size w wr)
    (fun v _ => ls.length - (intOf v).toNat)
  case atStart => exact ⟨0, List.replicate ls.length 0, rfl, Nat.zero_le _, by simp, by simp, by rw [List.map_replicate, List.toArray_replicate]; exact heap_alloc_new _ _, hb1⟩
  case round =>
    obtain ⟨i, rs, rfl, hi, hrl, htk, hblk, hBw⟩ := hrel
    by_cases hlt : i < ls.length
    · have hcell : wr.cell? (ad.add i) = some (.string ls[i]) := (hBw.cell (by rw [add_block]; exact had)).trans (hL i _ (List.getElem?_eq_getElem hlt))
      have hle := hsz ls[i] (List.getElem_mem hlt)
      gi_wp2
      refine ⟨trivial, fun _ => by omega, callsIn_wide.2 ((leafText_any ls[i] hle wr).mono ?_)⟩
      rintro e w' ⟨rfl, rfl⟩
      gi_wp2
      refine ⟨trivial, fun _ => by omega, callsIn_wide.2 ((DigB.sum_any (Mer.leafText ls[i]) w' (by rw [leafText_size]; omega)).mono ?_)⟩
      rintro e w2 ⟨rfl, hb⟩
      have hblk2 : w2.heap[w.heap.size]? = _ := (hb.block _ (lt_of_block hblk)).trans hblk
      have hir : i < rs.length := by omega
      have hc2 : w2.cell? ⟨w.heap.size, i, none⟩ = some (.int .u64 rs[i]) := by rw [Tool.cell_blk hblk2]; simp [hir]
      have hf2 := Tool.free_blk hblk2 i
      gi_wp2
      go_roundw
      case rel =>
        refine ⟨i + 1, rs.set i (Mer.leaf ls[i]), by go_num, by omega, by simp [hrl], ?_, ?_, (hBw.trans (hb.mono hBw.size)).setCell (Nat.le_refl w.heap.size) _⟩
        · exact take_set_succ htk hir (by rw [List.getElem?_map, List.getElem?_eq_getElem hlt]; rfl)
        · rw [Tool.set_blk hblk2 i, List.map_set, List.setIfInBounds_toArray]; rfl
      case measure => simp [intOf]; omega
    · obtain rfl : i = ls.length := by omega
      obtain rfl : rs = ls.map Mer.leaf := by rw [List.take_of_length_le (by omega), List.take_of_length_le (by simp)] at htk; exact htk
      gi_wp2
      gi_loopw [3] (fun v wr => ∃ (i b cap : Nat) (W0 : World), v = .slice (some ⟨b, 0, none⟩) (Mer.rowN (ls.map Mer.leaf) i).length cap ∧ 0 < (Mer.rowN (ls.map Mer.leaf) i).length ∧ (Mer.rowN (ls.map Mer.leaf) i).length ≤ 1024 ∧ (∀ j, j < i → 1 < (Mer.rowN (ls.map Mer.leaf) j).length) ∧
          J i W0 ∧ Below W0.heap.size W0 wr ∧ W0.heap.size ≤ b ∧ RowAt wr b (Mer.rowN (ls.map Mer.leaf) i) cap ∧ w.heap.size ≤ W0.heap.size)
        (fun v _ => match v with | .slice _ m _ => m | _ => 0)
      case atStart => exact ⟨0, w.heap.size, ls.length, w, by simp [Mer.rowN], by simpa [Mer.rowN] using hpos, by simpa [Mer.rowN] using hlen, fun j h => absurd h (Nat.not_lt_zero j), h0, hBw, Nat.le_refl _, ⟨_, hblk, by simp [Mer.rowN], Nat.le_trans hlen (by decide), by simp, by rw [Mer.rowN, List.take_of_length_le (by simp)]⟩, Nat.le_refl _⟩
      case round =>
        obtain ⟨i, b, cap, W0, rfl, hp, hm, hbig, hj, hBo, hb0, hrow, hw0⟩ := hrel
        obtain ⟨fn, tmps, assign, body, hy, hR⟩ := hY i W0 _ b cap hj hBo hb0 hrow hp hm hbig
        gi_wp2
        refine ⟨fun _ => by omega, hR.mono ?_⟩
        rintro e W1 ⟨rfl, hJ1, hk1, hs1⟩
        have hrow1 : RowAt W1 b (Mer.rowN (ls.map Mer.leaf) i) cap := by obtain ⟨cur, h1, h2⟩ := hrow; exact ⟨cur, hk1.trans h1, h2⟩
        clear hY hy hR
        by_cases h1 : 1 < (Mer.rowN (ls.map Mer.leaf) i).length
        · have h1i : (1 : Int) < ((Mer.rowN (ls.map Mer.leaf) i).length : Int) := by omega
          gi_wp2
          gi_loopw [6, 7] (fun v6 v7 wr => ∃ (k : Nat), v7 = .int .i64 (2 * (k : Int)) ∧ k ≤ ((Mer.rowN (ls.map Mer.leaf) i).length + 1) / 2 ∧
              wr.ownsRow W1.heap.size 24 1 v6 k (((Mer.up (Mer.rowN (ls.map Mer.leaf) i)).take k).map (Value.int .u64)) ∧ Below W1.heap.size W1 wr)
            (fun _ v7 _ => ((Mer.rowN (ls.map Mer.leaf) i).length + 1) - (intOf v7).toNat)
          case atStart => exact ⟨0, rfl, Nat.zero_le _, by simpa using World.ownsRow_nil _ _ _ _, Below.refl _ _⟩
          case round =>
            obtain ⟨k, rfl, hk, how, hBi⟩ := hrel
            have hrowr := row_below hrow1 hBi
            have hok := Mer.rowN_ok (Mer.leaves_ok ls) i
            obtain ⟨row, hrowE⟩ : ∃ row, Mer.rowN (ls.map Mer.leaf) i = row := ⟨_, rfl⟩
            rw [hrowE] at hp hm hrow hrow1 h1 h1i hk how hrowr hok ⊢
            have HROW := Lib.hid hrowE
            clear hrowE
            have hcap : row.length ≤ cap := by obtain ⟨_, _, h, _⟩ := hrow1; exact h
            obtain ⟨i0, hi0, hz0, hz1, hz2⟩ := info_parts infoD
            have HI := Lib.hid hi0; have HZ0 := Lib.hid hz0; have HZ1 := Lib.hid hz1; have HZ2 := Lib.hid hz2
            clear hi0 hz0 hz1 hz2
            by_cases hlt2 : 2 * k < row.length
            · have hc0 := row_cell hrowr (2 * k) hlt2
              by_cases hlast : 2 * k + 1 = row.length
              · gi_wp2_with (gi_at_builtin; refine wpListIn_append_own _ rfl _ _ 53 rfl W1.heap.size 24 i0 (.int .u64 0) 1 8 Try.underlying53 HI.out HZ0.out HZ1.out HZ2.out rfl (by decide) _ _ _ rfl (how.alloc _) ⟨wr.heap.size, 0, none⟩ 1 1 [.int .u64 row[2 * k]] rfl rfl (cell_one_new _ _ _) (by simp [Value.oneCell']) (by unfold maxLen; omega) (by omega) (by have := hBi.size; simp; omega) ?_; intro v' w1 hown' hgrow hnil; clear hnil)
                go_roundw
                case rel =>
                  refine ⟨k + 1, by go_num, by omega, ?_, ?_⟩
                  · rw [Mer.up_take_last _ _ hlast, List.map_append]; exact hown'
                  · exact (hBi.alloc hBi.size _).grown hgrow (by have := hBi.size; simp; omega) (fun j e => (how.lt j e).1)
                case measure => simp [intOf]; omega
              · have hlt3 : 2 * k + 1 < row.length := by omega
                have hc1 := row_cell hrowr (2 * k + 1) hlt3
                gi_wp2
                refine wpIn_wide.2 ?_
                have q5 : IntKind.i64.wrap (2 * (k : Int) + 1) = 2 * (k : Int) + 1 := IntWalk.i64_in _ (by omega)
                have q1 : (0 : Int) ≤ 2 * (k : Int) := by omega
                have q2 : 2 * (k : Int) < (row.length : Int) := by omega
                have q6 : (0 : Int) ≤ 2 * (k : Int) + 1 := by omega
                have q7 : 2 * (k : Int) + 1 < (row.length : Int) := by omega
                have q3 : (2 * (k : Int)).toNat = 2 * k := by omega
                have q8 : (2 * (k : Int) + 1).toNat = 2 * k + 1 := by omega
                have hbW : b < W1.heap.size := by obtain ⟨_, h, _⟩ := hrow1; exact lt_of_block h
                have hbw : b < wr.heap.size := Nat.lt_of_lt_of_le hbW hBi.size
                have howd := how.drew
                go_region_held3 (fun W' => W'.cell? ⟨b, 2 * k, none⟩ = some (.int .u64 row[2 * k]) ∧ W'.cell? ⟨b, 2 * k + 1, none⟩ = some (.int .u64 row[2 * k + 1])) (first | go_keep | (exact ⟨hk0, hk1⟩) | (exact ⟨hka, hkb⟩))
                  (first | (go_at_call 23; refine (DigC.pair_any row[2 * k] row[2 * k + 1] (hok _ (List.getElem_mem _)) (hok _ (List.getElem_mem _)) _).mono ?_; rintro e w5 ⟨rfl, hb5⟩; have how5 := owns_below howd hb5; have hk0 := (hb5.cell (p := ⟨b, 2 * k, none⟩) (by exact hbw)).trans hc0; have hk1 := (hb5.cell (p := ⟨b, 2 * k + 1, none⟩) (by exact hbw)).trans hc1) | (refine step_append_lies _ (by rfl) _ _ 53 (by rfl) W1.heap.size 24 i0 (.int .u64 0) 1 8 Try.underlying53 HI.out HZ0.out HZ1.out HZ2.out rfl (by decide) _ _ _ (by rfl) (how5.alloc _) ⟨w5.heap.size, 0, none⟩ 1 1 [.int .u64 (Dig.sum (Dig.pairS row[2 * k] row[2 * k + 1]))] (by rfl) rfl (cell_one_new _ _ _) (by simp [Value.oneCell']) (by decide) (by unfold maxLen; omega) (by omega) (by have := hBi.size; have := hb5.size; simp at *; omega) _ rfl ?_; intro g2 cap2 w1 hown' hgrow hat hlt; have hbw5 : b < w5.heap.size := Nat.lt_of_lt_of_le hbw hb5.size; have hne : some b ≠ Value.ownBlock _ := fun e => absurd (how.lt _ e.symm).1 (by omega); have hka := far_new hgrow hne hbw5 hk0; have hkb := far_new hgrow hne hbw5 hk1))
                clear q1 q2 q3 q5 q6 q7 q8
                gi_wp2
                go_roundw
                case rel =>
                  refine ⟨k + 1, by go_num, by omega, ?_, ?_⟩
                  · rw [Mer.up_take _ _ hlt3, List.map_append]; exact hown'
                  · refine ((hBi.drew.trans (hb5.mono hBi.size)).alloc (Nat.le_trans hBi.size hb5.size) _).grown hgrow (by have := hBi.size; have := hb5.size; simp at *; omega) (fun j e => (how.lt j e).1)
                case measure => simp [intOf]; omega
            · gi_wp2
              obtain rfl : k = (row.length + 1) / 2 := by omega
              have hul := Mer.up_length row
              rw [List.take_of_length_le (by omega)] at how
              obtain ⟨b2, cap2, rfl, hb2, hr2⟩ := owns_row hul (by omega) how
              have e1 : Mer.rowN (ls.map Mer.leaf) (i + 1) = Mer.up row := by rw [Mer.rowN, HROW.out]
              refine ⟨⟨i + 1, b2, cap2, W1, by rw [e1], by rw [e1]; omega, by rw [e1]; omega, ?_, hJ1, hBi, hb2, by rw [e1]; exact hr2, hs1⟩, ?_⟩
              · intro j hj
                by_cases e : j = i
                · subst e; rw [HROW.out]; exact h1
                · exact hbig j (by omega)
              · show (Mer.up row).length < (Mer.rowN (ls.map Mer.leaf) i).length
                rw [HROW.out]; omega
        · gi_wp2
          go_end0
          exact ⟨⟨_, rfl⟩, i, by omega, hbig, hJ1⟩
end Go.Proofs.Ytcikhbamdbphaaa.MerA
