/- rangeproof.proveBit walked (under way). -/
import Derived.Test.YtnlgnmlobklobaaDoorComX
import Derived.Test.YtnlgnmlobklobaaDoorHash
set_option linter.unusedSimpArgs false
set_option linter.unusedVariables false
set_option maxRecDepth 100000
namespace Go.Proofs.YtnlgnmlobklobaaDoor.Com
open Go.RowKit Go.Shelf Go.Proofs.YtnlgnmlobklobaaDoor
theorem nums2 (W : World) (b : Nat) (t : TypeId) (x y : Int) (h : W.heap[b]? = some (.cells #[.int .i64 x, .int .i64 y] t (0, 0))) : Hash.Nums W (some ⟨b, 0, none⟩) [x, y] := fun _ =>
  ⟨⟨b, 0, none⟩, rfl, (Array.getElem?_eq_some_iff.1 h).1, fun i n hn => by
    match i, hn with
    | 0, hn => cases hn; exact Tool.cell_blk h 0
    | 1, hn => cases hn; exact Tool.cell_blk h 1⟩
theorem nums3 (W : World) (b : Nat) (t : TypeId) (x y z : Int) (h : W.heap[b]? = some (.cells #[.int .i64 x, .int .i64 y, .int .i64 z] t (0, 0))) : Hash.Nums W (some ⟨b, 0, none⟩) [x, y, z] := fun _ =>
  ⟨⟨b, 0, none⟩, rfl, (Array.getElem?_eq_some_iff.1 h).1, fun i n hn => by
    match i, hn with
    | 0, hn => cases hn; exact Tool.cell_blk h 0
    | 1, hn => cases hn; exact Tool.cell_blk h 1
    | 2, hn => cases hn; exact Tool.cell_blk h 2⟩
/-- hash of a seed and two numbers that the call has just laid. -/
theorem hash2 (seed : ByteArray) (x y : Int) (hx : -9223372036854775808 ≤ x ∧ x ≤ 9223372036854775807) (hy : -9223372036854775808 ≤ y ∧ y ≤ 9223372036854775807) (hs : seed.size ≤ 1000000000) (w : World) (hT : Hash.TabTen w) (B : Nat) (hB : w.heap.size = B) :
    Calls Tryd.prog 24 #[.string seed, .slice (some ⟨B, 0, none⟩) 2 2] (w.alloc (.cells #[.int .i64 x, .int .i64 y] 3)) fun e w' => e = .returned (.int .i64 (Hash.hsh seed [x, y])) ∧ Below w.heap.size w w' := by
  subst hB
  have hb := (Below.refl w.heap.size w).alloc (Nat.le_refl _) (.cells #[.int .i64 x, .int .i64 y] 3)
  refine (Hash.hash_any seed _ [x, y] 2 _ (nums2 _ _ _ _ _ (Rf.alloc_new w _ rfl)) (by intro n hn; simp at hn; omega) (by simp) hs (hT.below hb)).mono ?_
  rintro e w' ⟨he, hb'⟩
  exact ⟨he, hb.trans (hb'.mono (by simp))⟩
theorem hash3 (seed : ByteArray) (x y z : Int) (hx : -9223372036854775808 ≤ x ∧ x ≤ 9223372036854775807) (hy : -9223372036854775808 ≤ y ∧ y ≤ 9223372036854775807) (hz : -9223372036854775808 ≤ z ∧ z ≤ 9223372036854775807) (hs : seed.size ≤ 1000000000) (w : World) (hT : Hash.TabTen w) (B : Nat) (hB : w.heap.size = B) :
    Calls Tryd.prog 24 #[.string seed, .slice (some ⟨B, 0, none⟩) 3 3] (w.alloc (.cells #[.int .i64 x, .int .i64 y, .int .i64 z] 3)) fun e w' => e = .returned (.int .i64 (Hash.hsh seed [x, y, z])) ∧ Below w.heap.size w w' := by
  subst hB
  have hb := (Below.refl w.heap.size w).alloc (Nat.le_refl _) (.cells #[.int .i64 x, .int .i64 y, .int .i64 z] 3)
  refine (Hash.hash_any seed _ [x, y, z] 3 _ (nums3 _ _ _ _ _ _ (Rf.alloc_new w _ rfl)) (by intro n hn; simp at hn; omega) (by simp) hs (hT.below hb)).mono ?_
  rintro e w' ⟨he, hb'⟩
  exact ⟨he, hb.trans (hb'.mono (by simp))⟩
theorem comI_range (v r : Int) : 0 ≤ (comI v r).1 ∧ (comI v r).1 < 2147483579 := by
  unfold comI
  split
  · have : com v.toNat r.toNat < 2147483579 := Nat.mod_lt _ (by decide)
    dsimp only; omega
  · dsimp only; omega
theorem _root_.Go.Proofs.YtnlgnmlobklobaaDoor.Rf.set_other' {W : World} {b i k : Nat} {v : Value} {x : Obj} (h : W.heap[k]? = some x) (hne : k ≠ b) : (W.setCell ⟨b, i, none⟩ v).heap[k]? = some x := (Below.heap_setCell W ⟨b, i, none⟩ v k hne).trans h
theorem size_set' {W : World} {b i n : Nat} {v : Value} (h : n < W.heap.size) : n < (W.setCell ⟨b, i, none⟩ v).heap.size := by simpa [World.setCell] using h
attribute [local go_sem] idx0 idx1
def word_c : ByteArray := ⟨#[99]⟩
/-- The challenge of a commitment and two first messages. -/
def chal (c x y : Int) : Int := Hash.hsh word_c [c, x, y]
/-- proveBit's answer, by the bit. -/
def bit0P (r : Int) (seed : ByteArray) (j : Int) : Bp :=
  let C := (comI 0 r).1; let k := Hash.hsh seed [j, 1]; let e := Hash.hsh seed [j, 2]; let z := Hash.hsh seed [j, 3]
  let f0 := pwI 9 k; let f1 := mulI (pwI 9 z) (pwI (invI (mulI C (invI 4))) e)
  let c0 := (chal C f0 f1 - e) % 1073741789
  ⟨C, f0, f1, c0, e, (k + c0 * r) % 1073741789, z⟩
def bit1P (r : Int) (seed : ByteArray) (j : Int) : Bp :=
  let C := (comI 1 r).1; let k := Hash.hsh seed [j, 1]; let e := Hash.hsh seed [j, 2]; let z := Hash.hsh seed [j, 3]
  let f1 := pwI 9 k; let f0 := mulI (pwI 9 z) (pwI (invI C) e)
  let c1 := (chal C f0 f1 - e) % 1073741789
  ⟨C, f0, f1, e, c1, z, (k + c1 * r) % 1073741789⟩
theorem bit0P_eq (r : Int) (seed : ByteArray) (j : Int) : bit0P r seed j = bit0P r seed j := rfl
theorem bit1P_eq (r : Int) (seed : ByteArray) (j : Int) : bit1P r seed j = bit1P r seed j := rfl
-- GENBIT
set_option maxHeartbeats 4000000 in
theorem bit0 (r j : Int) (seed : ByteArray) (hr : nuB r = true) (hj : 0 ≤ j ∧ j < 100) (hs : seed.size ≤ 1000000) (w : World) (hG : TabGen w) (hT : Hash.TabTen w) :
    Calls Tryd.prog 25 #[.int .i64 0, .int .i64 r, .string seed, .int .i64 j] w fun e w' => e = .returned (bit0P r seed j).val ∧ Below w.heap.size w w' := by
  have HP := Lib.hid (bit0P_eq r seed j)
  go_enter Tryd.func25, Tryd.ntmps25
  go_wp2_with (first | (go_at_call 17; refine (commit_any _ _ _ (TabGen.below hG ((Below.refl _ _).alloc (Nat.le_refl _) _))).mono ?_; rintro e w1 ⟨rfl, hb1⟩; refine Hid.out ?_))
  refine Lib.hid ?_
  have hz := Rf.alloc_new w (.cells #[.int .i64 0, .int .i64 0, .int .i64 0, .int .i64 0, .int .i64 0, .int .i64 0, .int .i64 0] 25) rfl
  have hk0 := (hb1.block _ (by simp)).trans hz
  have hb0 := ((Below.refl w.heap.size w).alloc (Nat.le_refl _) (.cells #[.int .i64 0, .int .i64 0, .int .i64 0, .int .i64 0, .int .i64 0, .int .i64 0, .int .i64 0] 25)).trans (hb1.mono (by simp))
  have hsz := hb0.size
  have hsq : w.heap.size < w1.heap.size := by have := hb1.size; simp at this; omega
  have hT1 := Hash.TabTen.below hT hb0
  have hcr := comI_range 0 r
  obtain ⟨C, hC⟩ : ∃ C, (comI 0 r).1 = C := ⟨_, rfl⟩
  obtain ⟨E0, hE0⟩ : ∃ C, (comI 0 r).2 = C := ⟨_, rfl⟩
  rw [hC] at hcr
  rw [hC, hE0]
  have HC := Lib.hid hC
  clear hz hb1 hE0 hC
  go_wp2_with (first | (go_at_call 24; refine Hid.out ?_))
  refine Lib.hid ?_
  obtain ⟨W2, hW2⟩ : ∃ W2, w1.alloc (.cells #[.int .i64 C, .int .i64 0, .int .i64 0, .int .i64 0, .int .i64 0, .int .i64 0, .int .i64 0] 25) = W2 := ⟨_, rfl⟩
  have hx := Rf.alloc_new w1 (.cells #[.int .i64 C, .int .i64 0, .int .i64 0, .int .i64 0, .int .i64 0, .int .i64 0, .int .i64 0] 25) rfl
  have hk2 := Rf.alloc_old (.cells #[.int .i64 C, .int .i64 0, .int .i64 0, .int .i64 0, .int .i64 0, .int .i64 0, .int .i64 0] 25) hk0
  have hb2 := ((Below.refl w1.heap.size w1).alloc (Nat.le_refl _) (.cells #[.int .i64 C, .int .i64 0, .int .i64 0, .int .i64 0, .int .i64 0, .int .i64 0, .int .i64 0] 25))
  have hs2 := World.size_alloc w1 (.cells #[.int .i64 C, .int .i64 0, .int .i64 0, .int .i64 0, .int .i64 0, .int .i64 0, .int .i64 0] 25)
  rw [hW2] at hx hb2 hs2 hk2 ⊢
  have hb02 := hb0.trans (hb2.mono hsz)
  have HS2 := Lib.hid hs2
  have hs2' : w1.heap.size < W2.heap.size := by omega
  clear hW2 hs2 hk0
  refine (hash2 seed j 1 (by omega) (by omega) (by omega) W2 (hT1.below hb2) _ HS2.out).mono ?_
  rintro e w3 ⟨rfl, hb3⟩
  refine Hid.out ?_
  have hx3 := (hb3.block _ hs2').trans hx
  have hk3 := (hb3.block _ (Nat.lt_trans hsq hs2')).trans hk2
  have hb03 := hb02.trans (hb3.mono hb02.size)
  have hs3 : w1.heap.size < w3.heap.size := Nat.lt_of_lt_of_le hs2' hb3.size
  have hT3 := Hash.TabTen.below hT hb03
  clear hb3 hb02 hx hk2 hs2'
  obtain ⟨kk, hkk⟩ : ∃ x, Hash.hsh seed [j, 1] = x := ⟨_, rfl⟩
  have hkkr := Hash.hsh_range seed [j, 1]
  rw [hkk] at hkkr ⊢
  have HK := Lib.hid hkk
  clear hkk
  refine Lib.hid ?_
  go_wp2_with (first | (go_at_call 24; refine Hid.out ?_))
  refine Lib.hid ?_
  refine (hash2 seed j 2 (by omega) (by omega) (by omega) w3 hT3 _ rfl).mono ?_
  rintro e w4 ⟨rfl, hb4⟩
  refine Hid.out ?_
  have hx4 := (hb4.block _ hs3).trans hx3
  have hk4 := (hb4.block _ (Nat.lt_trans hsq hs3)).trans hk3
  have hb04 := hb03.trans (hb4.mono hb03.size)
  have hs4 : w1.heap.size < w4.heap.size := Nat.lt_of_lt_of_le hs3 hb4.size
  have hT4 := Hash.TabTen.below hT hb04
  clear hb4 hb03 hx3 hk3 hs3
  obtain ⟨ee, hee⟩ : ∃ x, Hash.hsh seed [j, 2] = x := ⟨_, rfl⟩
  have heer := Hash.hsh_range seed [j, 2]
  rw [hee] at heer ⊢
  have HE := Lib.hid hee
  clear hee
  refine Lib.hid ?_
  go_wp2_with (first | (go_at_call 24; refine Hid.out ?_))
  refine Lib.hid ?_
  refine (hash2 seed j 3 (by omega) (by omega) (by omega) w4 hT4 _ rfl).mono ?_
  rintro e w5 ⟨rfl, hb5⟩
  refine Hid.out ?_
  have hx5 := (hb5.block _ hs4).trans hx4
  have hk5 := (hb5.block _ (Nat.lt_trans hsq hs4)).trans hk4
  have hb05 := hb04.trans (hb5.mono hb04.size)
  have hs5 : w1.heap.size < w5.heap.size := Nat.lt_of_lt_of_le hs4 hb5.size
  have hT5 := Hash.TabTen.below hT hb05
  clear hb5 hb04 hx4 hk4 hs4
  obtain ⟨zz, hzz⟩ : ∃ x, Hash.hsh seed [j, 3] = x := ⟨_, rfl⟩
  have hzzr := Hash.hsh_range seed [j, 3]
  rw [hzz] at hzzr ⊢
  have HZ := Lib.hid hzz
  clear hzz
  refine Lib.hid ?_
  obtain ⟨d0, d1, d2, d3, d4, d5, d6⟩ := cells8 hx5
  have fz := fun i => Tool.free_blk hx5 i
  go_wp2_with (first | (go_at_call 35; refine Hid.out ?_))
  refine Lib.hid ?_
  clear d0 d1 d2 d3 d4 d5 d6 fz
  have hx6 : ((w5.setCell ⟨w1.heap.size, 4, none⟩ (.int .i64 ee)).setCell ⟨w1.heap.size, 6, none⟩ (.int .i64 zz)).heap[w1.heap.size]? = some (.cells #[.int .i64 C, .int .i64 0, .int .i64 0, .int .i64 0, .int .i64 ee, .int .i64 0, .int .i64 zz] 25 (0, 0)) := (Tool.set_blk (Tool.set_blk hx5 4 _) 6 _)
  have hk6 : ((w5.setCell ⟨w1.heap.size, 4, none⟩ (.int .i64 ee)).setCell ⟨w1.heap.size, 6, none⟩ (.int .i64 zz)).heap[w.heap.size]? = some (.cells #[.int .i64 0, .int .i64 0, .int .i64 0, .int .i64 0, .int .i64 0, .int .i64 0, .int .i64 0] 25 (0, 0)) := (Rf.set_other' (Rf.set_other' hk5 (by omega)) (by omega))
  have hb06 : Below w.heap.size w ((w5.setCell ⟨w1.heap.size, 4, none⟩ (.int .i64 ee)).setCell ⟨w1.heap.size, 6, none⟩ (.int .i64 zz)) := (Below.setCell (Below.setCell hb05 (p := ⟨w1.heap.size, 4, none⟩) (by exact hsz) (.int .i64 ee)) (p := ⟨w1.heap.size, 6, none⟩) (by exact hsz) (.int .i64 zz))
  have hs6 : w1.heap.size < ((w5.setCell ⟨w1.heap.size, 4, none⟩ (.int .i64 ee)).setCell ⟨w1.heap.size, 6, none⟩ (.int .i64 zz)).heap.size := by simpa using hs5
  obtain ⟨w6, hw6⟩ : ∃ x, ((w5.setCell ⟨w1.heap.size, 4, none⟩ (.int .i64 ee)).setCell ⟨w1.heap.size, 6, none⟩ (.int .i64 zz)) = x := ⟨_, rfl⟩
  rw [hw6] at hx6 hk6 hb06 hs6 ⊢
  clear hw6 hx5 hk5 hb05 hs5 hT5
  refine (to_int 9 zz ⟨by decide, by decide, by omega, by omega⟩ w6).mono ?_
  rintro e w7 ⟨rfl, hbq⟩
  have hx7 := (hbq.block _ hs6).trans hx6
  have hk7 := (hbq.block _ (Nat.lt_trans hsq hs6)).trans hk6
  have hb07 := hb06.trans (hbq.mono hb06.size)
  have hs7 : w1.heap.size < w7.heap.size := Nat.lt_of_lt_of_le hs6 hbq.size
  clear hx6 hk6 hb06 hs6 hbq
  obtain ⟨aa, haa⟩ : ∃ x, pwI 9 zz = x := ⟨_, rfl⟩
  have haar := pwI_range 9 zz
  rw [haa] at haar ⊢
  have HA := Lib.hid haa
  clear haa
  go_wp2_with (first | (go_at_call 47; refine Hid.out ?_))
  refine Lib.hid ?_
  refine (sides_any C w7).mono ?_
  rintro e w8 ⟨B, hB, rfl, hbx, hbq⟩
  have hx8 := (hbq.block _ hs7).trans hx7
  have hk8 := (hbq.block _ (Nat.lt_trans hsq hs7)).trans hk7
  have hb08 := hb07.trans (hbq.mono hb07.size)
  have hs8 : w1.heap.size < w8.heap.size := Nat.lt_of_lt_of_le hs7 hbq.size
  clear hx7 hk7 hb07 hs7 hbq
  have hBs := hbx.lt
  go_wp2_with (first | (go_at_call 64; refine Hid.out ?_))
  refine Lib.hid ?_
  refine (side2_any C hcr B w8 hbx).mono ?_
  rintro e w9 ⟨rfl, hbq⟩
  have hx9 := (hbq.block _ hs8).trans hx8
  have hk9 := (hbq.block _ (Nat.lt_trans hsq hs8)).trans hk8
  have hb09 := hb08.trans (hbq.mono hb08.size)
  have hs9 : w1.heap.size < w9.heap.size := Nat.lt_of_lt_of_le hs8 hbq.size
  clear hx8 hk8 hb08 hs8 hbq
  clear hbx hBs
  obtain ⟨D, hD⟩ : ∃ x, mulI C (invI 4) = x := ⟨_, rfl⟩
  have hDr := mulI_range C (invI 4)
  rw [hD] at hDr ⊢
  have HD := Lib.hid hD
  clear hD
  go_wp2_with (first | (go_at_call 48; refine Hid.out ?_))
  refine Lib.hid ?_
  refine (inverse_int D hDr _).mono ?_
  rintro e w10 ⟨rfl, hbq⟩
  have hx10 := (hbq.block _ hs9).trans hx9
  have hk10 := (hbq.block _ (Nat.lt_trans hsq hs9)).trans hk9
  have hb010 := hb09.trans (hbq.mono hb09.size)
  have hs10 : w1.heap.size < w10.heap.size := Nat.lt_of_lt_of_le hs9 hbq.size
  clear hx9 hk9 hb09 hs9 hbq
  obtain ⟨I, hI⟩ : ∃ x, invI D = x := ⟨_, rfl⟩
  have hIr : 0 ≤ invI D ∧ invI D < 2147483579 := pwI_range D 1073741788
  rw [hI] at hIr ⊢
  have HI := Lib.hid hI
  clear hI
  go_wp2_with (first | (go_at_call 35; refine Hid.out ?_))
  refine Lib.hid ?_
  refine (to_int I ee ⟨hIr.1, hIr.2, by omega, by omega⟩ w10).mono ?_
  rintro e w11 ⟨rfl, hbq⟩
  have hx11 := (hbq.block _ hs10).trans hx10
  have hk11 := (hbq.block _ (Nat.lt_trans hsq hs10)).trans hk10
  have hb011 := hb010.trans (hbq.mono hb010.size)
  have hs11 : w1.heap.size < w11.heap.size := Nat.lt_of_lt_of_le hs10 hbq.size
  clear hx10 hk10 hb010 hs10 hbq
  obtain ⟨bb, hbb⟩ : ∃ x, pwI I ee = x := ⟨_, rfl⟩
  have hbbr := pwI_range I ee
  rw [hbb] at hbbr ⊢
  have HB := Lib.hid hbb
  clear hbb
  go_wp2_with (first | (go_at_call 34; refine Hid.out ?_))
  refine Lib.hid ?_
  refine (times_int aa bb ⟨haar.1, haar.2, hbbr.1, hbbr.2⟩ _).mono ?_
  rintro e w12 ⟨rfl, rfl⟩
  obtain ⟨ff, hff⟩ : ∃ x, mulI aa bb = x := ⟨_, rfl⟩
  have hffr := mulI_range aa bb
  rw [hff] at hffr ⊢
  have HF := Lib.hid hff
  clear hff
  obtain ⟨d0, d1, d2, d3, d4, d5, d6⟩ := cells8 hx11
  have fz := fun i => Tool.free_blk hx11 i
  go_wp2_with (first | (go_at_call 35; refine Hid.out ?_))
  refine Lib.hid ?_
  clear d0 d1 d2 d3 d4 d5 d6 fz
  skip
  have hx12 := Tool.set_blk hx11 2 (.int .i64 ff)
  have hk12 := Rf.set_other' (i := 2) (v := .int .i64 ff) (b := w1.heap.size) hk11 (by omega)
  have hb012 := Below.setCell hb011 (p := ⟨w1.heap.size, 2, none⟩) (by exact hsz) (.int .i64 ff)
  have hs12 := size_set' (b := w1.heap.size) hs11 (i := 2) (v := .int .i64 ff)
  clear hx11 hk11 hb011 hs11
  generalize hw12 : World.setCell _ ⟨w1.heap.size, 2, none⟩ (.int .i64 ff) = w12 at hx12 hk12 hb012 hs12 ⊢
  clear hw12
  change w12.heap[w1.heap.size]? = some (.cells #[.int .i64 C, .int .i64 0, .int .i64 ff, .int .i64 0, .int .i64 ee, .int .i64 0, .int .i64 zz] 25 (0, 0)) at hx12
  refine (to_int 9 kk ⟨by decide, by decide, by omega, by omega⟩ w12).mono ?_
  rintro e w13 ⟨rfl, hbq⟩
  have hx13 := (hbq.block _ hs12).trans hx12
  have hk13 := (hbq.block _ (Nat.lt_trans hsq hs12)).trans hk12
  have hb013 := hb012.trans (hbq.mono hb012.size)
  have hs13 : w1.heap.size < w13.heap.size := Nat.lt_of_lt_of_le hs12 hbq.size
  clear hx12 hk12 hb012 hs12 hbq
  obtain ⟨gg, hgg⟩ : ∃ x, pwI 9 kk = x := ⟨_, rfl⟩
  have hggr := pwI_range 9 kk
  rw [hgg] at hggr ⊢
  have HGG := Lib.hid hgg
  clear hgg
  obtain ⟨d0, d1, d2, d3, d4, d5, d6⟩ := cells8 hx13
  have fz := fun i => Tool.free_blk hx13 i
  have hT13 := Hash.TabTen.below hT hb013
  have hx14 := Tool.set_blk hx13 1 (.int .i64 gg)
  have hk14 := Rf.set_other' (i := 1) (v := .int .i64 gg) (b := w1.heap.size) hk13 (by omega)
  have hb014 := Below.setCell hb013 (p := ⟨w1.heap.size, 1, none⟩) (by exact hsz) (.int .i64 gg)
  have hs14 := size_set' (b := w1.heap.size) hs13 (i := 1) (v := .int .i64 gg)
  change (w13.setCell ⟨w1.heap.size, 1, none⟩ (.int .i64 gg)).heap[w1.heap.size]? = some (.cells #[.int .i64 C, .int .i64 gg, .int .i64 ff, .int .i64 0, .int .i64 ee, .int .i64 0, .int .i64 zz] 25 (0, 0)) at hx14
  go_wp2_with (first | (go_at_call 24; refine Hid.out ?_))
  clear d0 d1 d2 d3 d4 d5 d6 fz
  refine Lib.hid ?_
  have hz14 : (w13.setCell ⟨w1.heap.size, 1, none⟩ (.int .i64 gg)).heap.size = w13.heap.size := by simp [World.setCell]
  clear hx13 hk13 hb013 hs13
  have hT14 := Hash.TabTen.below hT hb014
  generalize hw14 : World.setCell w13 ⟨w1.heap.size, 1, none⟩ (.int .i64 gg) = w14 at hx14 hk14 hb014 hs14 hT14 hz14 ⊢
  clear hw14
  have HZ14 := Lib.hid hz14
  clear hz14
  refine Hid.out ?_
  refine Lib.hid ?_
  refine (hash3 word_c C gg ff (by omega) (by omega) (by omega) (by decide) w14 hT14 _ HZ14.out).mono ?_
  rintro e w15 ⟨rfl, hbq⟩
  have hx15 := (hbq.block _ hs14).trans hx14
  have hk15 := (hbq.block _ (Nat.lt_trans hsq hs14)).trans hk14
  have hb015 := hb014.trans (hbq.mono hb014.size)
  have hs15 : w1.heap.size < w15.heap.size := Nat.lt_of_lt_of_le hs14 hbq.size
  clear hx14 hk14 hb014 hs14 hbq
  obtain ⟨cc, hcc⟩ : ∃ x, Hash.hsh word_c [C, gg, ff] = x := ⟨_, rfl⟩
  have hccr := Hash.hsh_range word_c [C, gg, ff]
  rw [hcc] at hccr ⊢
  have HCC := Lib.hid hcc
  clear hcc
  obtain ⟨hr0, hr1⟩ := nuB_range hr
  have hM0 : 0 ≤ ((cc - ee) % 1073741789) * r := Int.mul_nonneg (Int.emod_nonneg _ (by decide)) hr0
  have hM1 : ((cc - ee) % 1073741789) * r ≤ 1073741789 * 1073741789 := Int.mul_le_mul (Int.le_of_lt (Int.emod_lt_of_pos _ (by decide))) (by omega) hr0 (by decide)
  obtain ⟨d0, d1, d2, d3, d4, d5, d6⟩ := cells8 hx15
  have fz := fun i => Tool.free_blk hx15 i
  obtain ⟨e0, e1, e2, e3, e4, e5, e6⟩ := cells8 hk15
  have fk := fun i => Tool.free_blk hk15 i
  have q1 : wrap64 (((cc - ee) % 1073741789) * r) = ((cc - ee) % 1073741789) * r := by unfold wrap64; omega
  have q2 : wrap64 (kk + ((cc - ee) % 1073741789) * r) = kk + ((cc - ee) % 1073741789) * r := by unfold wrap64; omega
  have q3 : (wrap64 (kk + wrap64 (((cc - ee) % 1073741789) * r))).tmod 1073741789 = (kk + ((cc - ee) % 1073741789) * r) % 1073741789 := by
    rw [q1, q2]
    exact Int.tmod_eq_emod_of_nonneg (by omega)
  have Q3 := Lib.hid q3
  clear q1 q2 q3 hM0 hM1
  go_wp2
  rw [Q3.out]
  have hkf := (Tool.set_blk (Tool.set_blk (Tool.set_blk (Tool.set_blk (Tool.set_blk (Tool.set_blk (Tool.set_blk (Rf.set_other' (i := 5) (v := .int .i64 ((kk + (cc - ee) % 1073741789 * r) % 1073741789)) (b := w1.heap.size) (Rf.set_other' (i := 3) (v := .int .i64 ((cc - ee) % 1073741789)) (b := w1.heap.size) hk15 (Nat.ne_of_lt hsq)) (Nat.ne_of_lt hsq)) 0 (.int .i64 C)) 1 (.int .i64 gg)) 2 (.int .i64 ff)) 3 (.int .i64 ((cc - ee) % 1073741789))) 4 (.int .i64 ee)) 5 (.int .i64 ((kk + (cc - ee) % 1073741789 * r) % 1073741789))) 6 (.int .i64 zz))
  have hbf := (Below.setCell (Below.setCell (Below.setCell (Below.setCell (Below.setCell (Below.setCell (Below.setCell (Below.setCell (Below.setCell hb015 (p := ⟨w1.heap.size, 3, none⟩) (by first | exact hsz | exact Nat.le_refl _) (.int .i64 ((cc - ee) % 1073741789))) (p := ⟨w1.heap.size, 5, none⟩) (by first | exact hsz | exact Nat.le_refl _) (.int .i64 ((kk + (cc - ee) % 1073741789 * r) % 1073741789))) (p := ⟨w.heap.size, 0, none⟩) (by first | exact hsz | exact Nat.le_refl _) (.int .i64 C)) (p := ⟨w.heap.size, 1, none⟩) (by first | exact hsz | exact Nat.le_refl _) (.int .i64 gg)) (p := ⟨w.heap.size, 2, none⟩) (by first | exact hsz | exact Nat.le_refl _) (.int .i64 ff)) (p := ⟨w.heap.size, 3, none⟩) (by first | exact hsz | exact Nat.le_refl _) (.int .i64 ((cc - ee) % 1073741789))) (p := ⟨w.heap.size, 4, none⟩) (by first | exact hsz | exact Nat.le_refl _) (.int .i64 ee)) (p := ⟨w.heap.size, 5, none⟩) (by first | exact hsz | exact Nat.le_refl _) (.int .i64 ((kk + (cc - ee) % 1073741789 * r) % 1073741789))) (p := ⟨w.heap.size, 6, none⟩) (by first | exact hsz | exact Nat.le_refl _) (.int .i64 zz))
  clear e0 e1 e2 e3 e4 e5 e6 fk d0 d1 d2 d3 d4 d5 d6 fz hx15 hk15 hb015 hs15
  generalize World.setCell _ ⟨w.heap.size, 6, none⟩ _ = wf at hkf hbf ⊢
  change wf.heap[w.heap.size]? = some (.cells #[.int .i64 C, .int .i64 gg, .int .i64 ff, .int .i64 ((cc - ee) % 1073741789), .int .i64 ee, .int .i64 ((kk + (cc - ee) % 1073741789 * r) % 1073741789), .int .i64 zz] 25 (0, 0)) at hkf
  obtain ⟨e0, e1, e2, e3, e4, e5, e6⟩ := cells8 hkf
  refine ⟨rfl, .agg #[.int .i64 C, .int .i64 gg, .int .i64 ff, .int .i64 ((cc - ee) % 1073741789), .int .i64 ee, .int .i64 ((kk + (cc - ee) % 1073741789 * r) % 1073741789), .int .i64 zz], ?_, ?_, hbf⟩
  · simp [results, go_sem, e0, e1, e2, e3, e4, e5, e6]
  · unfold bit0P chal
    simp only [HC.out, HK.out, HE.out, HZ.out, HA.out, HD.out, HI.out, HB.out, HF.out, HGG.out, HCC.out]
    rfl
set_option maxHeartbeats 4000000 in
theorem bit1 (r j : Int) (seed : ByteArray) (hr : nuB r = true) (hj : 0 ≤ j ∧ j < 100) (hs : seed.size ≤ 1000000) (w : World) (hG : TabGen w) (hT : Hash.TabTen w) :
    Calls Tryd.prog 25 #[.int .i64 1, .int .i64 r, .string seed, .int .i64 j] w fun e w' => e = .returned (bit1P r seed j).val ∧ Below w.heap.size w w' := by
  have HP := Lib.hid (bit1P_eq r seed j)
  go_enter Tryd.func25, Tryd.ntmps25
  go_wp2_with (first | (go_at_call 17; refine (commit_any _ _ _ (TabGen.below hG ((Below.refl _ _).alloc (Nat.le_refl _) _))).mono ?_; rintro e w1 ⟨rfl, hb1⟩; refine Hid.out ?_))
  refine Lib.hid ?_
  have hz := Rf.alloc_new w (.cells #[.int .i64 0, .int .i64 0, .int .i64 0, .int .i64 0, .int .i64 0, .int .i64 0, .int .i64 0] 25) rfl
  have hk0 := (hb1.block _ (by simp)).trans hz
  have hb0 := ((Below.refl w.heap.size w).alloc (Nat.le_refl _) (.cells #[.int .i64 0, .int .i64 0, .int .i64 0, .int .i64 0, .int .i64 0, .int .i64 0, .int .i64 0] 25)).trans (hb1.mono (by simp))
  have hsz := hb0.size
  have hsq : w.heap.size < w1.heap.size := by have := hb1.size; simp at this; omega
  have hT1 := Hash.TabTen.below hT hb0
  have hcr := comI_range 1 r
  obtain ⟨C, hC⟩ : ∃ C, (comI 1 r).1 = C := ⟨_, rfl⟩
  obtain ⟨E0, hE0⟩ : ∃ C, (comI 1 r).2 = C := ⟨_, rfl⟩
  rw [hC] at hcr
  rw [hC, hE0]
  have HC := Lib.hid hC
  clear hz hb1 hE0 hC
  go_wp2_with (first | (go_at_call 24; refine Hid.out ?_))
  refine Lib.hid ?_
  obtain ⟨W2, hW2⟩ : ∃ W2, w1.alloc (.cells #[.int .i64 C, .int .i64 0, .int .i64 0, .int .i64 0, .int .i64 0, .int .i64 0, .int .i64 0] 25) = W2 := ⟨_, rfl⟩
  have hx := Rf.alloc_new w1 (.cells #[.int .i64 C, .int .i64 0, .int .i64 0, .int .i64 0, .int .i64 0, .int .i64 0, .int .i64 0] 25) rfl
  have hk2 := Rf.alloc_old (.cells #[.int .i64 C, .int .i64 0, .int .i64 0, .int .i64 0, .int .i64 0, .int .i64 0, .int .i64 0] 25) hk0
  have hb2 := ((Below.refl w1.heap.size w1).alloc (Nat.le_refl _) (.cells #[.int .i64 C, .int .i64 0, .int .i64 0, .int .i64 0, .int .i64 0, .int .i64 0, .int .i64 0] 25))
  have hs2 := World.size_alloc w1 (.cells #[.int .i64 C, .int .i64 0, .int .i64 0, .int .i64 0, .int .i64 0, .int .i64 0, .int .i64 0] 25)
  rw [hW2] at hx hb2 hs2 hk2 ⊢
  have hb02 := hb0.trans (hb2.mono hsz)
  have HS2 := Lib.hid hs2
  have hs2' : w1.heap.size < W2.heap.size := by omega
  clear hW2 hs2 hk0
  refine (hash2 seed j 1 (by omega) (by omega) (by omega) W2 (hT1.below hb2) _ HS2.out).mono ?_
  rintro e w3 ⟨rfl, hb3⟩
  refine Hid.out ?_
  have hx3 := (hb3.block _ hs2').trans hx
  have hk3 := (hb3.block _ (Nat.lt_trans hsq hs2')).trans hk2
  have hb03 := hb02.trans (hb3.mono hb02.size)
  have hs3 : w1.heap.size < w3.heap.size := Nat.lt_of_lt_of_le hs2' hb3.size
  have hT3 := Hash.TabTen.below hT hb03
  clear hb3 hb02 hx hk2 hs2'
  obtain ⟨kk, hkk⟩ : ∃ x, Hash.hsh seed [j, 1] = x := ⟨_, rfl⟩
  have hkkr := Hash.hsh_range seed [j, 1]
  rw [hkk] at hkkr ⊢
  have HK := Lib.hid hkk
  clear hkk
  refine Lib.hid ?_
  go_wp2_with (first | (go_at_call 24; refine Hid.out ?_))
  refine Lib.hid ?_
  refine (hash2 seed j 2 (by omega) (by omega) (by omega) w3 hT3 _ rfl).mono ?_
  rintro e w4 ⟨rfl, hb4⟩
  refine Hid.out ?_
  have hx4 := (hb4.block _ hs3).trans hx3
  have hk4 := (hb4.block _ (Nat.lt_trans hsq hs3)).trans hk3
  have hb04 := hb03.trans (hb4.mono hb03.size)
  have hs4 : w1.heap.size < w4.heap.size := Nat.lt_of_lt_of_le hs3 hb4.size
  have hT4 := Hash.TabTen.below hT hb04
  clear hb4 hb03 hx3 hk3 hs3
  obtain ⟨ee, hee⟩ : ∃ x, Hash.hsh seed [j, 2] = x := ⟨_, rfl⟩
  have heer := Hash.hsh_range seed [j, 2]
  rw [hee] at heer ⊢
  have HE := Lib.hid hee
  clear hee
  refine Lib.hid ?_
  go_wp2_with (first | (go_at_call 24; refine Hid.out ?_))
  refine Lib.hid ?_
  refine (hash2 seed j 3 (by omega) (by omega) (by omega) w4 hT4 _ rfl).mono ?_
  rintro e w5 ⟨rfl, hb5⟩
  refine Hid.out ?_
  have hx5 := (hb5.block _ hs4).trans hx4
  have hk5 := (hb5.block _ (Nat.lt_trans hsq hs4)).trans hk4
  have hb05 := hb04.trans (hb5.mono hb04.size)
  have hs5 : w1.heap.size < w5.heap.size := Nat.lt_of_lt_of_le hs4 hb5.size
  have hT5 := Hash.TabTen.below hT hb05
  clear hb5 hb04 hx4 hk4 hs4
  obtain ⟨zz, hzz⟩ : ∃ x, Hash.hsh seed [j, 3] = x := ⟨_, rfl⟩
  have hzzr := Hash.hsh_range seed [j, 3]
  rw [hzz] at hzzr ⊢
  have HZ := Lib.hid hzz
  clear hzz
  refine Lib.hid ?_
  obtain ⟨d0, d1, d2, d3, d4, d5, d6⟩ := cells8 hx5
  have fz := fun i => Tool.free_blk hx5 i
  go_wp2_with (first | (go_at_call 35; refine Hid.out ?_))
  refine Lib.hid ?_
  clear d0 d1 d2 d3 d4 d5 d6 fz
  have hx6 : ((w5.setCell ⟨w1.heap.size, 3, none⟩ (.int .i64 ee)).setCell ⟨w1.heap.size, 5, none⟩ (.int .i64 zz)).heap[w1.heap.size]? = some (.cells #[.int .i64 C, .int .i64 0, .int .i64 0, .int .i64 ee, .int .i64 0, .int .i64 zz, .int .i64 0] 25 (0, 0)) := (Tool.set_blk (Tool.set_blk hx5 3 _) 5 _)
  have hk6 : ((w5.setCell ⟨w1.heap.size, 3, none⟩ (.int .i64 ee)).setCell ⟨w1.heap.size, 5, none⟩ (.int .i64 zz)).heap[w.heap.size]? = some (.cells #[.int .i64 0, .int .i64 0, .int .i64 0, .int .i64 0, .int .i64 0, .int .i64 0, .int .i64 0] 25 (0, 0)) := (Rf.set_other' (Rf.set_other' hk5 (by omega)) (by omega))
  have hb06 : Below w.heap.size w ((w5.setCell ⟨w1.heap.size, 3, none⟩ (.int .i64 ee)).setCell ⟨w1.heap.size, 5, none⟩ (.int .i64 zz)) := (Below.setCell (Below.setCell hb05 (p := ⟨w1.heap.size, 3, none⟩) (by exact hsz) (.int .i64 ee)) (p := ⟨w1.heap.size, 5, none⟩) (by exact hsz) (.int .i64 zz))
  have hs6 : w1.heap.size < ((w5.setCell ⟨w1.heap.size, 3, none⟩ (.int .i64 ee)).setCell ⟨w1.heap.size, 5, none⟩ (.int .i64 zz)).heap.size := by simpa using hs5
  obtain ⟨w6, hw6⟩ : ∃ x, ((w5.setCell ⟨w1.heap.size, 3, none⟩ (.int .i64 ee)).setCell ⟨w1.heap.size, 5, none⟩ (.int .i64 zz)) = x := ⟨_, rfl⟩
  rw [hw6] at hx6 hk6 hb06 hs6 ⊢
  clear hw6 hx5 hk5 hb05 hs5 hT5
  refine (to_int 9 zz ⟨by decide, by decide, by omega, by omega⟩ w6).mono ?_
  rintro e w7 ⟨rfl, hbq⟩
  have hx7 := (hbq.block _ hs6).trans hx6
  have hk7 := (hbq.block _ (Nat.lt_trans hsq hs6)).trans hk6
  have hb07 := hb06.trans (hbq.mono hb06.size)
  have hs7 : w1.heap.size < w7.heap.size := Nat.lt_of_lt_of_le hs6 hbq.size
  clear hx6 hk6 hb06 hs6 hbq
  obtain ⟨aa, haa⟩ : ∃ x, pwI 9 zz = x := ⟨_, rfl⟩
  have haar := pwI_range 9 zz
  rw [haa] at haar ⊢
  have HA := Lib.hid haa
  clear haa
  go_wp2_with (first | (go_at_call 47; refine Hid.out ?_))
  refine Lib.hid ?_
  refine (sides_any C w7).mono ?_
  rintro e w8 ⟨B, hB, rfl, hbx, hbq⟩
  have hx8 := (hbq.block _ hs7).trans hx7
  have hk8 := (hbq.block _ (Nat.lt_trans hsq hs7)).trans hk7
  have hb08 := hb07.trans (hbq.mono hb07.size)
  have hs8 : w1.heap.size < w8.heap.size := Nat.lt_of_lt_of_le hs7 hbq.size
  clear hx7 hk7 hb07 hs7 hbq
  have hBs := hbx.lt
  go_wp2_with (first | (go_at_call 63; refine Hid.out ?_))
  refine Lib.hid ?_
  refine (side1_any C B w8 hbx).mono ?_
  rintro e w9 ⟨rfl, rfl⟩
  have hx9 := hx8
  have hk9 := hk8
  have hb09 := hb08
  have hs9 := hs8
  clear hx8 hk8 hb08 hs8 hbx hBs
  have hDr := hcr
  go_wp2_with (first | (go_at_call 48; refine Hid.out ?_))
  refine Lib.hid ?_
  refine (inverse_int C hDr _).mono ?_
  rintro e w10 ⟨rfl, hbq⟩
  have hx10 := (hbq.block _ hs9).trans hx9
  have hk10 := (hbq.block _ (Nat.lt_trans hsq hs9)).trans hk9
  have hb010 := hb09.trans (hbq.mono hb09.size)
  have hs10 : w1.heap.size < w10.heap.size := Nat.lt_of_lt_of_le hs9 hbq.size
  clear hx9 hk9 hb09 hs9 hbq
  obtain ⟨I, hI⟩ : ∃ x, invI C = x := ⟨_, rfl⟩
  have hIr : 0 ≤ invI C ∧ invI C < 2147483579 := pwI_range C 1073741788
  rw [hI] at hIr ⊢
  have HI := Lib.hid hI
  clear hI
  go_wp2_with (first | (go_at_call 35; refine Hid.out ?_))
  refine Lib.hid ?_
  refine (to_int I ee ⟨hIr.1, hIr.2, by omega, by omega⟩ w10).mono ?_
  rintro e w11 ⟨rfl, hbq⟩
  have hx11 := (hbq.block _ hs10).trans hx10
  have hk11 := (hbq.block _ (Nat.lt_trans hsq hs10)).trans hk10
  have hb011 := hb010.trans (hbq.mono hb010.size)
  have hs11 : w1.heap.size < w11.heap.size := Nat.lt_of_lt_of_le hs10 hbq.size
  clear hx10 hk10 hb010 hs10 hbq
  obtain ⟨bb, hbb⟩ : ∃ x, pwI I ee = x := ⟨_, rfl⟩
  have hbbr := pwI_range I ee
  rw [hbb] at hbbr ⊢
  have HB := Lib.hid hbb
  clear hbb
  go_wp2_with (first | (go_at_call 34; refine Hid.out ?_))
  refine Lib.hid ?_
  refine (times_int aa bb ⟨haar.1, haar.2, hbbr.1, hbbr.2⟩ _).mono ?_
  rintro e w12 ⟨rfl, rfl⟩
  obtain ⟨ff, hff⟩ : ∃ x, mulI aa bb = x := ⟨_, rfl⟩
  have hffr := mulI_range aa bb
  rw [hff] at hffr ⊢
  have HF := Lib.hid hff
  clear hff
  obtain ⟨d0, d1, d2, d3, d4, d5, d6⟩ := cells8 hx11
  have fz := fun i => Tool.free_blk hx11 i
  go_wp2_with (first | (go_at_call 35; refine Hid.out ?_))
  refine Lib.hid ?_
  clear d0 d1 d2 d3 d4 d5 d6 fz
  skip
  have hx12 := Tool.set_blk hx11 1 (.int .i64 ff)
  have hk12 := Rf.set_other' (i := 1) (v := .int .i64 ff) (b := w1.heap.size) hk11 (by omega)
  have hb012 := Below.setCell hb011 (p := ⟨w1.heap.size, 1, none⟩) (by exact hsz) (.int .i64 ff)
  have hs12 := size_set' (b := w1.heap.size) hs11 (i := 1) (v := .int .i64 ff)
  clear hx11 hk11 hb011 hs11
  generalize hw12 : World.setCell _ ⟨w1.heap.size, 1, none⟩ (.int .i64 ff) = w12 at hx12 hk12 hb012 hs12 ⊢
  clear hw12
  change w12.heap[w1.heap.size]? = some (.cells #[.int .i64 C, .int .i64 ff, .int .i64 0, .int .i64 ee, .int .i64 0, .int .i64 zz, .int .i64 0] 25 (0, 0)) at hx12
  refine (to_int 9 kk ⟨by decide, by decide, by omega, by omega⟩ w12).mono ?_
  rintro e w13 ⟨rfl, hbq⟩
  have hx13 := (hbq.block _ hs12).trans hx12
  have hk13 := (hbq.block _ (Nat.lt_trans hsq hs12)).trans hk12
  have hb013 := hb012.trans (hbq.mono hb012.size)
  have hs13 : w1.heap.size < w13.heap.size := Nat.lt_of_lt_of_le hs12 hbq.size
  clear hx12 hk12 hb012 hs12 hbq
  obtain ⟨gg, hgg⟩ : ∃ x, pwI 9 kk = x := ⟨_, rfl⟩
  have hggr := pwI_range 9 kk
  rw [hgg] at hggr ⊢
  have HGG := Lib.hid hgg
  clear hgg
  obtain ⟨d0, d1, d2, d3, d4, d5, d6⟩ := cells8 hx13
  have fz := fun i => Tool.free_blk hx13 i
  have hT13 := Hash.TabTen.below hT hb013
  have hx14 := Tool.set_blk hx13 2 (.int .i64 gg)
  have hk14 := Rf.set_other' (i := 2) (v := .int .i64 gg) (b := w1.heap.size) hk13 (by omega)
  have hb014 := Below.setCell hb013 (p := ⟨w1.heap.size, 2, none⟩) (by exact hsz) (.int .i64 gg)
  have hs14 := size_set' (b := w1.heap.size) hs13 (i := 2) (v := .int .i64 gg)
  change (w13.setCell ⟨w1.heap.size, 2, none⟩ (.int .i64 gg)).heap[w1.heap.size]? = some (.cells #[.int .i64 C, .int .i64 ff, .int .i64 gg, .int .i64 ee, .int .i64 0, .int .i64 zz, .int .i64 0] 25 (0, 0)) at hx14
  go_wp2_with (first | (go_at_call 24; refine Hid.out ?_))
  clear d0 d1 d2 d3 d4 d5 d6 fz
  refine Lib.hid ?_
  have hz14 : (w13.setCell ⟨w1.heap.size, 2, none⟩ (.int .i64 gg)).heap.size = w13.heap.size := by simp [World.setCell]
  clear hx13 hk13 hb013 hs13
  have hT14 := Hash.TabTen.below hT hb014
  generalize hw14 : World.setCell w13 ⟨w1.heap.size, 2, none⟩ (.int .i64 gg) = w14 at hx14 hk14 hb014 hs14 hT14 hz14 ⊢
  clear hw14
  have HZ14 := Lib.hid hz14
  clear hz14
  refine Hid.out ?_
  refine Lib.hid ?_
  refine (hash3 word_c C ff gg (by omega) (by omega) (by omega) (by decide) w14 hT14 _ HZ14.out).mono ?_
  rintro e w15 ⟨rfl, hbq⟩
  have hx15 := (hbq.block _ hs14).trans hx14
  have hk15 := (hbq.block _ (Nat.lt_trans hsq hs14)).trans hk14
  have hb015 := hb014.trans (hbq.mono hb014.size)
  have hs15 : w1.heap.size < w15.heap.size := Nat.lt_of_lt_of_le hs14 hbq.size
  clear hx14 hk14 hb014 hs14 hbq
  obtain ⟨cc, hcc⟩ : ∃ x, Hash.hsh word_c [C, ff, gg] = x := ⟨_, rfl⟩
  have hccr := Hash.hsh_range word_c [C, ff, gg]
  rw [hcc] at hccr ⊢
  have HCC := Lib.hid hcc
  clear hcc
  obtain ⟨hr0, hr1⟩ := nuB_range hr
  have hM0 : 0 ≤ ((cc - ee) % 1073741789) * r := Int.mul_nonneg (Int.emod_nonneg _ (by decide)) hr0
  have hM1 : ((cc - ee) % 1073741789) * r ≤ 1073741789 * 1073741789 := Int.mul_le_mul (Int.le_of_lt (Int.emod_lt_of_pos _ (by decide))) (by omega) hr0 (by decide)
  obtain ⟨d0, d1, d2, d3, d4, d5, d6⟩ := cells8 hx15
  have fz := fun i => Tool.free_blk hx15 i
  obtain ⟨e0, e1, e2, e3, e4, e5, e6⟩ := cells8 hk15
  have fk := fun i => Tool.free_blk hk15 i
  have q1 : wrap64 (((cc - ee) % 1073741789) * r) = ((cc - ee) % 1073741789) * r := by unfold wrap64; omega
  have q2 : wrap64 (kk + ((cc - ee) % 1073741789) * r) = kk + ((cc - ee) % 1073741789) * r := by unfold wrap64; omega
  have q3 : (wrap64 (kk + wrap64 (((cc - ee) % 1073741789) * r))).tmod 1073741789 = (kk + ((cc - ee) % 1073741789) * r) % 1073741789 := by
    rw [q1, q2]
    exact Int.tmod_eq_emod_of_nonneg (by omega)
  have Q3 := Lib.hid q3
  clear q1 q2 q3 hM0 hM1
  go_wp2
  rw [Q3.out]
  have hkf := (Tool.set_blk (Tool.set_blk (Tool.set_blk (Tool.set_blk (Tool.set_blk (Tool.set_blk (Tool.set_blk (Rf.set_other' (i := 6) (v := .int .i64 ((kk + (cc - ee) % 1073741789 * r) % 1073741789)) (b := w1.heap.size) (Rf.set_other' (i := 4) (v := .int .i64 ((cc - ee) % 1073741789)) (b := w1.heap.size) hk15 (Nat.ne_of_lt hsq)) (Nat.ne_of_lt hsq)) 0 (.int .i64 C)) 1 (.int .i64 ff)) 2 (.int .i64 gg)) 3 (.int .i64 ee)) 4 (.int .i64 ((cc - ee) % 1073741789))) 5 (.int .i64 zz)) 6 (.int .i64 ((kk + (cc - ee) % 1073741789 * r) % 1073741789)))
  have hbf := (Below.setCell (Below.setCell (Below.setCell (Below.setCell (Below.setCell (Below.setCell (Below.setCell (Below.setCell (Below.setCell hb015 (p := ⟨w1.heap.size, 4, none⟩) (by first | exact hsz | exact Nat.le_refl _) (.int .i64 ((cc - ee) % 1073741789))) (p := ⟨w1.heap.size, 6, none⟩) (by first | exact hsz | exact Nat.le_refl _) (.int .i64 ((kk + (cc - ee) % 1073741789 * r) % 1073741789))) (p := ⟨w.heap.size, 0, none⟩) (by first | exact hsz | exact Nat.le_refl _) (.int .i64 C)) (p := ⟨w.heap.size, 1, none⟩) (by first | exact hsz | exact Nat.le_refl _) (.int .i64 ff)) (p := ⟨w.heap.size, 2, none⟩) (by first | exact hsz | exact Nat.le_refl _) (.int .i64 gg)) (p := ⟨w.heap.size, 3, none⟩) (by first | exact hsz | exact Nat.le_refl _) (.int .i64 ee)) (p := ⟨w.heap.size, 4, none⟩) (by first | exact hsz | exact Nat.le_refl _) (.int .i64 ((cc - ee) % 1073741789))) (p := ⟨w.heap.size, 5, none⟩) (by first | exact hsz | exact Nat.le_refl _) (.int .i64 zz)) (p := ⟨w.heap.size, 6, none⟩) (by first | exact hsz | exact Nat.le_refl _) (.int .i64 ((kk + (cc - ee) % 1073741789 * r) % 1073741789)))
  clear e0 e1 e2 e3 e4 e5 e6 fk d0 d1 d2 d3 d4 d5 d6 fz hx15 hk15 hb015 hs15
  generalize World.setCell _ ⟨w.heap.size, 6, none⟩ _ = wf at hkf hbf ⊢
  change wf.heap[w.heap.size]? = some (.cells #[.int .i64 C, .int .i64 ff, .int .i64 gg, .int .i64 ee, .int .i64 ((cc - ee) % 1073741789), .int .i64 zz, .int .i64 ((kk + (cc - ee) % 1073741789 * r) % 1073741789)] 25 (0, 0)) at hkf
  obtain ⟨e0, e1, e2, e3, e4, e5, e6⟩ := cells8 hkf
  refine ⟨rfl, .agg #[.int .i64 C, .int .i64 ff, .int .i64 gg, .int .i64 ee, .int .i64 ((cc - ee) % 1073741789), .int .i64 zz, .int .i64 ((kk + (cc - ee) % 1073741789 * r) % 1073741789)], ?_, ?_, hbf⟩
  · simp [results, go_sem, e0, e1, e2, e3, e4, e5, e6]
  · unfold bit1P chal
    simp only [HC.out, HK.out, HE.out, HZ.out, HA.out, HI.out, HB.out, HF.out, HGG.out, HCC.out]
    rfl
end Go.Proofs.YtnlgnmlobklobaaDoor.Com
