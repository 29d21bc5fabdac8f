-- Written by myprint.py over the kit's print.py (a printed text of this session's own make).
import Derived.Test.YtnlgnmlobklobaaDoorPAllx0
import Derived.Test.YtnlgnmlobklobaaDoorPAllx15
import Derived.Test.YtnlgnmlobklobaaDoorPAllx2
import Derived.Test.YtnlgnmlobklobaaDoorPAllx5
-- HALF the printed indentation
namespace Go.Proofs.YtnlgnmlobklobaaDoor.PAll
open Go.Proofs.YtnlgnmlobklobaaDoor.Stub Go.Proofs.YtnlgnmlobklobaaDoor.Com Go.Proofs.YtnlgnmlobklobaaDoor.Hash
open Go.RowKit Go.Proofs.YtnlgnmlobklobaaDoorW.PrintWords Go.Proofs.YtnlgnmlobklobaaDoorW.PrintLast Go.Proofs.YtnlgnmlobklobaaDoorW.PrintMore
attribute [local go_sem] max2_int min2_int max_two min_two max_three min_three max_four min_four   -- for this text's walks alone
set_option linter.unusedVariables false
set_option linter.unusedSimpArgs false

/-! ### wageofficelaw27_RangeproofSums: function 8 -/
mutual
def wageofficelaw27_RangeproofSums.j0 : Nat → Int → Int → Int → Int → Int → ByteArray → ByteArray → Bool → Bool → Option (Bool)
 | 0, _, _, _, _, _, _, _, _, _ => none
 | k + 1, x0, x1, x2, x3, x4, x5, x6, x15, x39 => if x39 = true then (some x15) else (if 0 ≤ (wrap64 ((Int.tmod (wrap64 (x4)) 28) + 1)) then (if (shl .i64 1 (wrap64 ((Int.tmod (wrap64 (x4)) 28) + 1))) = 0 then (none) else ((rangeproof_Prove.f k (Int.tmod (wrap64 (x0)) (shl .i64 1 (wrap64 ((Int.tmod (wrap64 (x4)) 28) + 1)))) (Int.tmod (wrap64 (x1)) 1073741789) (wrap64 ((Int.tmod (wrap64 (x4)) 28) + 1)) x5).bind fun bt338 => ((rangeproof_Prove.f k (Int.tmod (wrap64 (x2)) (shl .i64 1 (wrap64 ((Int.tmod (wrap64 (x4)) 28) + 1)))) (Int.tmod (wrap64 (x3)) 1073741789) (wrap64 ((Int.tmod (wrap64 (x4)) 28) + 1)) x6).bind fun bt342 => (if bt338.2 = 0 then (if bt342.2 = 0 then (if (bt338.1.length : Int) = (wrap64 ((Int.tmod (wrap64 (x4)) 28) + 1)) then (wageofficelaw27_RangeproofSums.j1 k x15 (wrap64 ((Int.tmod (wrap64 (x4)) 28) + 1)) (Int.tmod (wrap64 (x0)) (shl .i64 1 (wrap64 ((Int.tmod (wrap64 (x4)) 28) + 1)))) (Int.tmod (wrap64 (x2)) (shl .i64 1 (wrap64 ((Int.tmod (wrap64 (x4)) 28) + 1)))) (Int.tmod (wrap64 (x1)) 1073741789) (Int.tmod (wrap64 (x3)) 1073741789) bt338.1 bt342.1 ((bt342.1.length : Int) != (wrap64 ((Int.tmod (wrap64 (x4)) 28) + 1)))) else (wageofficelaw27_RangeproofSums.j1 k x15 (wrap64 ((Int.tmod (wrap64 (x4)) 28) + 1)) (Int.tmod (wrap64 (x0)) (shl .i64 1 (wrap64 ((Int.tmod (wrap64 (x4)) 28) + 1)))) (Int.tmod (wrap64 (x2)) (shl .i64 1 (wrap64 ((Int.tmod (wrap64 (x4)) 28) + 1)))) (Int.tmod (wrap64 (x1)) 1073741789) (Int.tmod (wrap64 (x3)) 1073741789) bt338.1 bt342.1 true)) else (wageofficelaw27_RangeproofSums.j1 k x15 (wrap64 ((Int.tmod (wrap64 (x4)) 28) + 1)) (Int.tmod (wrap64 (x0)) (shl .i64 1 (wrap64 ((Int.tmod (wrap64 (x4)) 28) + 1)))) (Int.tmod (wrap64 (x2)) (shl .i64 1 (wrap64 ((Int.tmod (wrap64 (x4)) 28) + 1)))) (Int.tmod (wrap64 (x1)) 1073741789) (Int.tmod (wrap64 (x3)) 1073741789) bt338.1 bt342.1 true)) else (wageofficelaw27_RangeproofSums.j1 k x15 (wrap64 ((Int.tmod (wrap64 (x4)) 28) + 1)) (Int.tmod (wrap64 (x0)) (shl .i64 1 (wrap64 ((Int.tmod (wrap64 (x4)) 28) + 1)))) (Int.tmod (wrap64 (x2)) (shl .i64 1 (wrap64 ((Int.tmod (wrap64 (x4)) 28) + 1)))) (Int.tmod (wrap64 (x1)) 1073741789) (Int.tmod (wrap64 (x3)) 1073741789) bt338.1 bt342.1 true))))) else (none))
def wageofficelaw27_RangeproofSums.j1 : Nat → Bool → Int → Int → Int → Int → Int → List (S25) → List (S25) → Bool → Option (Bool)
 | 0, _, _, _, _, _, _, _, _, _ => none
 | k + 1, x15, x16, x17, x18, x19, x20, x21, x23, x94 => if x94 = true then (some false) else (wageofficelaw27_RangeproofSums.l0 k x15 x16 x17 x18 x19 x20 x21 x23 1 0)
def wageofficelaw27_RangeproofSums.l0 : Nat → Bool → Int → Int → Int → Int → Int → List (S25) → List (S25) → Int → Int → Option (Bool)
 | 0, _, _, _, _, _, _, _, _, _, _ => none
 | k + 1, x15, x16, x17, x18, x19, x20, x21, x23, x25, x26 => if x26 < x16 then (if 0 ≤ x26 then (if x26 < (x21.length : Int) then (if x26 < (x23.length : Int) then ((commitment_Add.f ((rd_T25 x21 x26).f0) ((rd_T25 x23 x26).f0)).bind fun bt350 => (if bt350.2 = 0 then ((commitment_Power.f bt350.1 (shl .i64 1 x26)).bind fun t352 => (wageofficelaw27_RangeproofSums.l0 k x15 x16 x17 x18 x19 x20 x21 x23 (Int.tmod (wrap64 (x25 * t352)) 2147483579) (wrap64 (x26 + 1)))) else (some false))) else (none)) else (none)) else (none)) else ((commitment_Commit.f (wrap64 (x17 + x18)) (Int.tmod (wrap64 (x19 + x20)) 1073741789)).bind fun bt346 => (if x15 = true then (if bt346.2 = 0 then (some (x25 == bt346.1)) else (some false)) else (some false)))
end
def wageofficelaw27_RangeproofSums.f (k : Nat) (a0 : Int) (a1 : Int) (a2 : Int) (a3 : Int) (a4 : Int) (a5 : ByteArray) (a6 : ByteArray) : Option (Bool) := (wageofficelaw27_head.f k).bind fun t337 => (if (a5.size : Int) > 60 then (wageofficelaw27_RangeproofSums.j0 k a0 a1 a2 a3 a4 a5 a6 t337 true) else (wageofficelaw27_RangeproofSums.j0 k a0 a1 a2 a3 a4 a5 a6 t337 (decide ((a6.size : Int) > 60))))
theorem wageofficelaw27_RangeproofSums.mono_l : ∀ k, (∀ y0 y1 y2 y3 y4 y5 y6 y7 y8, LeO (wageofficelaw27_RangeproofSums.j0 k y0 y1 y2 y3 y4 y5 y6 y7 y8) (wageofficelaw27_RangeproofSums.j0 (k + 1) y0 y1 y2 y3 y4 y5 y6 y7 y8)) ∧ (∀ y0 y1 y2 y3 y4 y5 y6 y7 y8, LeO (wageofficelaw27_RangeproofSums.j1 k y0 y1 y2 y3 y4 y5 y6 y7 y8) (wageofficelaw27_RangeproofSums.j1 (k + 1) y0 y1 y2 y3 y4 y5 y6 y7 y8)) ∧ (∀ y0 y1 y2 y3 y4 y5 y6 y7 y8 y9, LeO (wageofficelaw27_RangeproofSums.l0 k y0 y1 y2 y3 y4 y5 y6 y7 y8 y9) (wageofficelaw27_RangeproofSums.l0 (k + 1) y0 y1 y2 y3 y4 y5 y6 y7 y8 y9))
 | 0 => ⟨fun _ _ _ _ _ _ _ _ _ r h => by simp [wageofficelaw27_RangeproofSums.j0] at h, fun _ _ _ _ _ _ _ _ _ r h => by simp [wageofficelaw27_RangeproofSums.j1] at h, fun _ _ _ _ _ _ _ _ _ _ r h => by simp [wageofficelaw27_RangeproofSums.l0] at h⟩
 | k + 1 => by
  obtain ⟨ih0, ih1, ih2⟩ := wageofficelaw27_RangeproofSums.mono_l k
  refine ⟨?_, ?_, ?_⟩
  ·intro y0 y1 y2 y3 y4 y5 y6 y7 y8
   unfold wageofficelaw27_RangeproofSums.j0
   repeat' first
   | (with_reducible exact ih0 _ _ _ _ _ _ _ _ _)
   | (with_reducible exact ih1 _ _ _ _ _ _ _ _ _)
   | (with_reducible exact ih2 _ _ _ _ _ _ _ _ _ _)
   | (with_reducible exact rangeproof_Prove.mono _ _ _ _ _)
   | (with_reducible exact wageofficelaw27_head.mono _)
   | (with_reducible exact LeO.refl _)
   | (with_reducible exact LeO.none _)
   | (with_reducible refine LeO.ite ?_ ?_)
   | (with_reducible refine LeO.bind ?_ (fun _ => ?_))
   | exact ih0 _ _ _ _ _ _ _ _ _
   | exact ih1 _ _ _ _ _ _ _ _ _
   | exact ih2 _ _ _ _ _ _ _ _ _ _
   | exact rangeproof_Prove.mono _ _ _ _ _
   | exact wageofficelaw27_head.mono _
   | exact LeO.none _
   | refine LeO.ite ?_ ?_
   | refine LeO.bind ?_ (fun _ => ?_)
  ·intro y0 y1 y2 y3 y4 y5 y6 y7 y8
   unfold wageofficelaw27_RangeproofSums.j1
   repeat' first
   | (with_reducible exact ih0 _ _ _ _ _ _ _ _ _)
   | (with_reducible exact ih1 _ _ _ _ _ _ _ _ _)
   | (with_reducible exact ih2 _ _ _ _ _ _ _ _ _ _)
   | (with_reducible exact rangeproof_Prove.mono _ _ _ _ _)
   | (with_reducible exact wageofficelaw27_head.mono _)
   | (with_reducible exact LeO.refl _)
   | (with_reducible exact LeO.none _)
   | (with_reducible refine LeO.ite ?_ ?_)
   | (with_reducible refine LeO.bind ?_ (fun _ => ?_))
   | exact ih0 _ _ _ _ _ _ _ _ _
   | exact ih1 _ _ _ _ _ _ _ _ _
   | exact ih2 _ _ _ _ _ _ _ _ _ _
   | exact rangeproof_Prove.mono _ _ _ _ _
   | exact wageofficelaw27_head.mono _
   | exact LeO.none _
   | refine LeO.ite ?_ ?_
   | refine LeO.bind ?_ (fun _ => ?_)
  ·intro y0 y1 y2 y3 y4 y5 y6 y7 y8 y9
   unfold wageofficelaw27_RangeproofSums.l0
   repeat' first
   | (with_reducible exact ih0 _ _ _ _ _ _ _ _ _)
   | (with_reducible exact ih1 _ _ _ _ _ _ _ _ _)
   | (with_reducible exact ih2 _ _ _ _ _ _ _ _ _ _)
   | (with_reducible exact rangeproof_Prove.mono _ _ _ _ _)
   | (with_reducible exact wageofficelaw27_head.mono _)
   | (with_reducible exact LeO.refl _)
   | (with_reducible exact LeO.none _)
   | (with_reducible refine LeO.ite ?_ ?_)
   | (with_reducible refine LeO.bind ?_ (fun _ => ?_))
   | exact ih0 _ _ _ _ _ _ _ _ _
   | exact ih1 _ _ _ _ _ _ _ _ _
   | exact ih2 _ _ _ _ _ _ _ _ _ _
   | exact rangeproof_Prove.mono _ _ _ _ _
   | exact wageofficelaw27_head.mono _
   | exact LeO.none _
   | refine LeO.ite ?_ ?_
   | refine LeO.bind ?_ (fun _ => ?_)
theorem wageofficelaw27_RangeproofSums.mono : ∀ a0 a1 a2 a3 a4 a5 a6 k, LeO (wageofficelaw27_RangeproofSums.f k a0 a1 a2 a3 a4 a5 a6) (wageofficelaw27_RangeproofSums.f (k + 1) a0 a1 a2 a3 a4 a5 a6) := by
 intro a0 a1 a2 a3 a4 a5 a6 k
 obtain ⟨ih0, ih1, ih2⟩ := wageofficelaw27_RangeproofSums.mono_l k
 unfold wageofficelaw27_RangeproofSums.f
 repeat' first
   | (with_reducible exact ih0 _ _ _ _ _ _ _ _ _)
   | (with_reducible exact ih1 _ _ _ _ _ _ _ _ _)
   | (with_reducible exact ih2 _ _ _ _ _ _ _ _ _ _)
   | (with_reducible exact rangeproof_Prove.mono _ _ _ _ _)
   | (with_reducible exact wageofficelaw27_head.mono _)
   | (with_reducible exact LeO.refl _)
   | (with_reducible exact LeO.none _)
   | (with_reducible refine LeO.ite ?_ ?_)
   | (with_reducible refine LeO.bind ?_ (fun _ => ?_))
   | exact ih0 _ _ _ _ _ _ _ _ _
   | exact ih1 _ _ _ _ _ _ _ _ _
   | exact ih2 _ _ _ _ _ _ _ _ _ _
   | exact rangeproof_Prove.mono _ _ _ _ _
   | exact wageofficelaw27_head.mono _
   | exact LeO.none _
   | refine LeO.ite ?_ ?_
   | refine LeO.bind ?_ (fun _ => ?_)
def wageofficelaw27_RangeproofSums.T5 : Bool × List (List Nat × List Nat) := (true, [([], []), ([0], [0]), ([], []), ([2], [2]), ([1, 3], [1, 3]), ([], []), ([5], [5]), ([], []), ([7], [7]), ([6, 8], [6, 8]), ([4, 0, 1, 2, 3, 4], [4]), ([9, 10, 0, 1, 2, 3, 4, 5, 6, 7, 8, 9, 10], [9])])
def wageofficelaw27_RangeproofSums.B5 : List Nat := [0, 1, 0, 4, 15, 0, 32, 0, 128, 480, 31, 2047]
theorem wageofficelaw27_RangeproofSums.tab5 : rtab .any (opsOf Tryd.f8 5) = wageofficelaw27_RangeproofSums.T5 := by kernel_rfl
theorem wageofficelaw27_RangeproofSums.bits5 : waitsOk wageofficelaw27_RangeproofSums.T5.2 wageofficelaw27_RangeproofSums.B5 = true := by kernel_rfl
def wageofficelaw27_RangeproofSums.T15 : Bool × List (List Nat × List Nat) := (true, [([], []), ([], []), ([0, 1], [0, 1]), ([2], [2]), ([3], [3]), ([], []), ([], []), ([5, 6], [5, 6]), ([7], [7]), ([8], [8]), ([4, 9], [4, 9]), ([10], [10]), ([11], [11]), ([11], [11]), ([12, 10, 0, 1, 2, 3, 4, 5, 6, 7, 8, 9, 10, 11, 12], [12]), ([13, 14, 0, 1, 2, 3, 4, 5, 6, 7, 8, 9, 10, 11, 12, 13, 14], [13])])
def wageofficelaw27_RangeproofSums.B15 : List Nat := [0, 0, 3, 7, 15, 0, 0, 96, 224, 480, 1023, 2047, 4095, 4095, 8191, 32767]
theorem wageofficelaw27_RangeproofSums.tab15 : rtab .any (opsOf Tryd.f8 15) = wageofficelaw27_RangeproofSums.T15 := by kernel_rfl
theorem wageofficelaw27_RangeproofSums.bits15 : waitsOk wageofficelaw27_RangeproofSums.T15.2 wageofficelaw27_RangeproofSums.B15 = true := by kernel_rfl
set_option maxHeartbeats 8000000 in
set_option maxRecDepth 100000 in
theorem wageofficelaw27_RangeproofSums.calls (k : Nat) (a0 : Int) (a1 : Int) (a2 : Int) (a3 : Int) (a4 : Int) (a5 : ByteArray) (a6 : ByteArray) (r : Bool) (w : World) (hRT0 : r = true) (h : wageofficelaw27_RangeproofSums.f k a0 a1 a2 a3 a4 a5 a6 = some r) (hTGen0 : TabGen w) (hTTen0 : TabTen w) :
  Calls Tryd.prog 8 #[.int .u32 a0, .int .u32 a1, .int .u32 a2, .int .u32 a3, .int .u8 a4, .string a5, .string a6] w fun e w' => e = .returned (.bool r) ∧ Below w.heap.size w w' := by
 have hTGen := Aside0.mk hTGen0
 clear hTGen0
 have hTTen := Aside0.mk hTTen0
 clear hTTen0
 have HB := Aside0.mk (Below.refl w.heap.size w)
 have H : ((wageofficelaw27_head.f k).bind fun t337 => (if (a5.size : Int) > 60 then (wageofficelaw27_RangeproofSums.j0 k a0 a1 a2 a3 a4 a5 a6 t337 true) else (wageofficelaw27_RangeproofSums.j0 k a0 a1 a2 a3 a4 a5 a6 t337 (decide ((a6.size : Int) > 60))))) = some r := h
 clear h
 have hRT := Aside0.mk hRT0
 clear hRT0
 replace H := Option.bind_eq_some_iff.mp H
 obtain ⟨t337, A80, H⟩ := H
 replace H : (if (a5.size : Int) > 60 then (wageofficelaw27_RangeproofSums.j0 k a0 a1 a2 a3 a4 a5 a6 t337 true) else (wageofficelaw27_RangeproofSums.j0 k a0 a1 a2 a3 a4 a5 a6 t337 (decide ((a6.size : Int) > 60)))) = some r := H
 have A8 := Aside0.mk A80
 clear A80
 have HC9 := Aside0.mk H
 clear H
 go_enter Tryd.func8, Tryd.ntmps8
 go_upto_region 2 with (first | ((with_reducible refine gate_callee (f := 9) rfl ?_); refine goesL_ (some 31) rfl rfl Tryd.func9 (by kernel_rfl) rfl #[] rfl (by (try simp only [List.map_toArray, List.map_cons, List.map_nil]); first | done | rfl | (simp only [List.length_drop, List.length_take]; rfl)) ?_; (with_reducible refine (wageofficelaw27_head.calls k  t337 _ A8.out (TabGen.below hTGen.out (by repeat (first | exact HB.out | exact Below.refl _ _ | apply below_alloc | apply pw_below_drewN | apply below_drew1 | apply below_drew))) (TabTen.below hTTen.out (by repeat (first | exact HB.out | exact Below.refl _ _ | apply below_alloc | apply pw_below_drewN | apply below_drew1 | apply below_drew)))).mono ?_); rintro e w10 ⟨rfl, hb⟩; refine ⟨_, rfl, ?_⟩; have n0_ := Aside0.mk (below_step (by repeat (first | (with_reducible first | exact HB.out | apply below_alloc | apply pw_below_drewN | apply below_drew1) | exact HB.out)) hb); clear HB; have HB := n0_; clear n0_; (try clear hb); (try clear hb2); (try clear hk); (try clear hi)))
 (try simp only [Act.put, List.setIfInBounds_toArray, List.set_cons_zero, List.set_cons_succ])
 go_cut [39] (fun v39 wc => ∃ (kq : Nat) (x39_8 : Bool), v39 = .bool x39_8 ∧ Aside0 (wageofficelaw27_RangeproofSums.j0 kq a0 a1 a2 a3 a4 a5 a6 t337 x39_8 = some r) ∧ Aside0 (kq ≤ k) ∧ Aside0 (Below w.heap.size w wc))
 case first =>
  have H := HC9.out
  clear HC9
  by_cases c11 : (a5.size : Int) > 60
  ·rw [if_pos c11] at H
   have c11b0 : decide (60 < (a5.size : Int)) = true := decide_eq_true c11
   have c11b1 : decide (60 < a5.size) = true := decide_eq_true (by omega)
   clear c11
   (first | rw [c11b0] | (simp only [i64_w, i32_w]; rw [c11b0]) | skip)
   have H' := Aside0.mk H
   clear H
   go_wp2
   go_meet
   case rel => exact ⟨_, (true), (by first | rfl | (simp; done) | (simp [*]; done)), H', ⟨by first | omega | exact Nat.le_refl _⟩, ⟨by repeat (first | (with_reducible first | exact HB.out | apply below_alloc | apply pw_below_drewN | apply below_drew1) | exact HB.out)⟩⟩
  ·rw [if_neg c11] at H
   have c11b0 : decide (60 < (a5.size : Int)) = false := decide_eq_false c11
   have c11b1 : decide (60 < a5.size) = false := decide_eq_false (by omega)
   clear c11
   (first | rw [c11b0] | (simp only [i64_w, i32_w]; rw [c11b0]) | skip)
   have H' := Aside0.mk H
   clear H
   go_wp2
   go_meet
   case rel => exact ⟨_, (decide ((a6.size : Int) > 60)), (by first | rfl | (simp; done) | (simp [*]; done)), H', ⟨by first | omega | exact Nat.le_refl _⟩, ⟨by repeat (first | (with_reducible first | exact HB.out | apply below_alloc | apply pw_below_drewN | apply below_drew1) | exact HB.out)⟩⟩
 case rest =>
  clear HC9
  try clear c1
  try clear p2
  try clear c8
  try clear c9
  try clear c11
  try clear c11b0
  try clear c11b1
  obtain ⟨kq, x39_8, rfl, HA, HJ8, HB⟩ := hcut
  cases kq with
  | zero => exact absurd HA.out (by simp [wageofficelaw27_RangeproofSums.j0])
  | succ kj8 =>
   have H := HA.out
   clear HA
   simp only [wageofficelaw27_RangeproofSums.j0] at H
   by_cases c12 : x39_8 = true
   ·subst c12
    have H1 : (some t337) = some r := by rw [if_pos rfl] at H; exact H
    clear H
    have H := H1
    clear H1
    obtain rfl := Option.some.inj H
    go_wp2
    go_ret
    exact ⟨by first | rfl | (simp [errW_none, errW_some] <;> rfl) | (simp [*, errW_none, errW_some] <;> rfl), by repeat (first | (with_reducible first | exact HB.out | apply below_alloc | apply pw_below_drewN | apply below_drew1) | exact HB.out)⟩
   ·replace c12 := Bool.eq_false_iff.mpr c12
    subst c12
    have H1 : (if 0 ≤ (wrap64 ((Int.tmod (wrap64 (a4)) 28) + 1)) then (if (shl .i64 1 (wrap64 ((Int.tmod (wrap64 (a4)) 28) + 1))) = 0 then (none) else ((rangeproof_Prove.f kj8 (Int.tmod (wrap64 (a0)) (shl .i64 1 (wrap64 ((Int.tmod (wrap64 (a4)) 28) + 1)))) (Int.tmod (wrap64 (a1)) 1073741789) (wrap64 ((Int.tmod (wrap64 (a4)) 28) + 1)) a5).bind fun bt338 => ((rangeproof_Prove.f kj8 (Int.tmod (wrap64 (a2)) (shl .i64 1 (wrap64 ((Int.tmod (wrap64 (a4)) 28) + 1)))) (Int.tmod (wrap64 (a3)) 1073741789) (wrap64 ((Int.tmod (wrap64 (a4)) 28) + 1)) a6).bind fun bt342 => (if bt338.2 = 0 then (if bt342.2 = 0 then (if (bt338.1.length : Int) = (wrap64 ((Int.tmod (wrap64 (a4)) 28) + 1)) then (wageofficelaw27_RangeproofSums.j1 kj8 t337 (wrap64 ((Int.tmod (wrap64 (a4)) 28) + 1)) (Int.tmod (wrap64 (a0)) (shl .i64 1 (wrap64 ((Int.tmod (wrap64 (a4)) 28) + 1)))) (Int.tmod (wrap64 (a2)) (shl .i64 1 (wrap64 ((Int.tmod (wrap64 (a4)) 28) + 1)))) (Int.tmod (wrap64 (a1)) 1073741789) (Int.tmod (wrap64 (a3)) 1073741789) bt338.1 bt342.1 ((bt342.1.length : Int) != (wrap64 ((Int.tmod (wrap64 (a4)) 28) + 1)))) else (wageofficelaw27_RangeproofSums.j1 kj8 t337 (wrap64 ((Int.tmod (wrap64 (a4)) 28) + 1)) (Int.tmod (wrap64 (a0)) (shl .i64 1 (wrap64 ((Int.tmod (wrap64 (a4)) 28) + 1)))) (Int.tmod (wrap64 (a2)) (shl .i64 1 (wrap64 ((Int.tmod (wrap64 (a4)) 28) + 1)))) (Int.tmod (wrap64 (a1)) 1073741789) (Int.tmod (wrap64 (a3)) 1073741789) bt338.1 bt342.1 true)) else (wageofficelaw27_RangeproofSums.j1 kj8 t337 (wrap64 ((Int.tmod (wrap64 (a4)) 28) + 1)) (Int.tmod (wrap64 (a0)) (shl .i64 1 (wrap64 ((Int.tmod (wrap64 (a4)) 28) + 1)))) (Int.tmod (wrap64 (a2)) (shl .i64 1 (wrap64 ((Int.tmod (wrap64 (a4)) 28) + 1)))) (Int.tmod (wrap64 (a1)) 1073741789) (Int.tmod (wrap64 (a3)) 1073741789) bt338.1 bt342.1 true)) else (wageofficelaw27_RangeproofSums.j1 kj8 t337 (wrap64 ((Int.tmod (wrap64 (a4)) 28) + 1)) (Int.tmod (wrap64 (a0)) (shl .i64 1 (wrap64 ((Int.tmod (wrap64 (a4)) 28) + 1)))) (Int.tmod (wrap64 (a2)) (shl .i64 1 (wrap64 ((Int.tmod (wrap64 (a4)) 28) + 1)))) (Int.tmod (wrap64 (a1)) 1073741789) (Int.tmod (wrap64 (a3)) 1073741789) bt338.1 bt342.1 true))))) else (none)) = some r := by rw [if_neg (show ¬ (false = true) by decide)] at H; exact H
    clear H
    have H := H1
    clear H1
    obtain ⟨ji13, hji13⟩ : ∃ j_ : Int, (wrap64 ((Int.tmod (wrap64 (a4)) 28) + 1)) = j_ := ⟨_, rfl⟩
    replace H : (if 0 ≤ (ji13) then (if (shl .i64 1 (ji13)) = 0 then (none) else ((rangeproof_Prove.f kj8 (Int.tmod (wrap64 (a0)) (shl .i64 1 (ji13))) (Int.tmod (wrap64 (a1)) 1073741789) (ji13) a5).bind fun bt338 => ((rangeproof_Prove.f kj8 (Int.tmod (wrap64 (a2)) (shl .i64 1 (ji13))) (Int.tmod (wrap64 (a3)) 1073741789) (ji13) a6).bind fun bt342 => (if bt338.2 = 0 then (if bt342.2 = 0 then (if (bt338.1.length : Int) = (ji13) then (wageofficelaw27_RangeproofSums.j1 kj8 t337 ji13 (Int.tmod (wrap64 (a0)) (shl .i64 1 (ji13))) (Int.tmod (wrap64 (a2)) (shl .i64 1 (ji13))) (Int.tmod (wrap64 (a1)) 1073741789) (Int.tmod (wrap64 (a3)) 1073741789) bt338.1 bt342.1 ((bt342.1.length : Int) != (ji13))) else (wageofficelaw27_RangeproofSums.j1 kj8 t337 ji13 (Int.tmod (wrap64 (a0)) (shl .i64 1 (ji13))) (Int.tmod (wrap64 (a2)) (shl .i64 1 (ji13))) (Int.tmod (wrap64 (a1)) 1073741789) (Int.tmod (wrap64 (a3)) 1073741789) bt338.1 bt342.1 true)) else (wageofficelaw27_RangeproofSums.j1 kj8 t337 ji13 (Int.tmod (wrap64 (a0)) (shl .i64 1 (ji13))) (Int.tmod (wrap64 (a2)) (shl .i64 1 (ji13))) (Int.tmod (wrap64 (a1)) 1073741789) (Int.tmod (wrap64 (a3)) 1073741789) bt338.1 bt342.1 true)) else (wageofficelaw27_RangeproofSums.j1 kj8 t337 ji13 (Int.tmod (wrap64 (a0)) (shl .i64 1 (ji13))) (Int.tmod (wrap64 (a2)) (shl .i64 1 (ji13))) (Int.tmod (wrap64 (a1)) 1073741789) (Int.tmod (wrap64 (a3)) 1073741789) bt338.1 bt342.1 true))))) else (none)) = some r := by first | (rw [hji13] at H; exact H) | (simp only [hji13] at H ⊢; exact H)
    have hji13w : (IntKind.i64.wrap ((Int.tmod (wrap64 (a4)) 28) + 1)) = ji13 := (i64_w _).trans hji13
    by_cases c14 : 0 ≤ (ji13)
    ·rw [if_pos c14] at H
     have c14b0 := eq_true c14
     have c14b1 : decide (0 ≤ (ji13)) = true := decide_eq_true c14
     clear c14
     obtain ⟨ji15, hji15⟩ : ∃ j_ : Int, (shl .i64 1 (ji13)) = j_ := ⟨_, rfl⟩
     replace H : (if (ji15) = 0 then (none) else ((rangeproof_Prove.f kj8 (Int.tmod (wrap64 (a0)) (ji15)) (Int.tmod (wrap64 (a1)) 1073741789) (ji13) a5).bind fun bt338 => ((rangeproof_Prove.f kj8 (Int.tmod (wrap64 (a2)) (ji15)) (Int.tmod (wrap64 (a3)) 1073741789) (ji13) a6).bind fun bt342 => (if bt338.2 = 0 then (if bt342.2 = 0 then (if (bt338.1.length : Int) = (ji13) then (wageofficelaw27_RangeproofSums.j1 kj8 t337 ji13 (Int.tmod (wrap64 (a0)) (ji15)) (Int.tmod (wrap64 (a2)) (ji15)) (Int.tmod (wrap64 (a1)) 1073741789) (Int.tmod (wrap64 (a3)) 1073741789) bt338.1 bt342.1 ((bt342.1.length : Int) != (ji13))) else (wageofficelaw27_RangeproofSums.j1 kj8 t337 ji13 (Int.tmod (wrap64 (a0)) (ji15)) (Int.tmod (wrap64 (a2)) (ji15)) (Int.tmod (wrap64 (a1)) 1073741789) (Int.tmod (wrap64 (a3)) 1073741789) bt338.1 bt342.1 true)) else (wageofficelaw27_RangeproofSums.j1 kj8 t337 ji13 (Int.tmod (wrap64 (a0)) (ji15)) (Int.tmod (wrap64 (a2)) (ji15)) (Int.tmod (wrap64 (a1)) 1073741789) (Int.tmod (wrap64 (a3)) 1073741789) bt338.1 bt342.1 true)) else (wageofficelaw27_RangeproofSums.j1 kj8 t337 ji13 (Int.tmod (wrap64 (a0)) (ji15)) (Int.tmod (wrap64 (a2)) (ji15)) (Int.tmod (wrap64 (a1)) 1073741789) (Int.tmod (wrap64 (a3)) 1073741789) bt338.1 bt342.1 true))))) = some r := by first | (rw [hji15] at H; exact H) | (simp only [hji15] at H ⊢; exact H)
     have hji15_ : (IntKind.i64.wrap (1 * 2 ^ min (ji13).toNat 64)) = ji15 := hji15
     have hji15z : (ji13) ≤ 64 → (IntKind.i64.wrap (1 * 2 ^ (ji13).toNat)) = ji15 := shl_small hji15
     have hji15u : (IntKind.i64.wrap (2 ^ min (ji13).toNat 64)) = ji15 := by have h_ := hji15_; rw [Int.one_mul] at h_; exact h_
     have hji15v : (ji13) ≤ 64 → (IntKind.i64.wrap (2 ^ (ji13).toNat)) = ji15 := fun hle_ => by have h_ := hji15z hle_; rw [Int.one_mul] at h_; exact h_
     have hji15y : (wrap64 (1 * 2 ^ min (ji13).toNat 64)) = ji15 := (i64_w _).symm.trans hji15_
     have hji15x : (ji13) ≤ 64 → (wrap64 (1 * 2 ^ (ji13).toNat)) = ji15 := fun h_ => (i64_w _).symm.trans (hji15z h_)
     by_cases c16 : (ji15) = 0
     ·rw [if_pos c16] at H
      exact absurd H (by simp)
     ·rw [if_neg c16] at H
      have c16b0 : ((ji15) == 0) = false := beq_eq_false_iff_ne.mpr c16
      have c16b1 : ((ji15) != 0) = true := bne_iff_ne.mpr c16
      have c17b0 := eq_true (of_decide_eq_true (by first | (with_reducible assumption) | assumption) : 0 ≤ (ji13))
      replace H := Option.bind_eq_some_iff.mp H
      obtain ⟨⟨t338, t339⟩, A190, H⟩ := H
      replace H : ((rangeproof_Prove.f kj8 (Int.tmod (wrap64 (a2)) (ji15)) (Int.tmod (wrap64 (a3)) 1073741789) (ji13) a6).bind fun bt342 => (if t339 = 0 then (if bt342.2 = 0 then (if (t338.length : Int) = (ji13) then (wageofficelaw27_RangeproofSums.j1 kj8 t337 ji13 (Int.tmod (wrap64 (a0)) (ji15)) (Int.tmod (wrap64 (a2)) (ji15)) (Int.tmod (wrap64 (a1)) 1073741789) (Int.tmod (wrap64 (a3)) 1073741789) t338 bt342.1 ((bt342.1.length : Int) != (ji13))) else (wageofficelaw27_RangeproofSums.j1 kj8 t337 ji13 (Int.tmod (wrap64 (a0)) (ji15)) (Int.tmod (wrap64 (a2)) (ji15)) (Int.tmod (wrap64 (a1)) 1073741789) (Int.tmod (wrap64 (a3)) 1073741789) t338 bt342.1 true)) else (wageofficelaw27_RangeproofSums.j1 kj8 t337 ji13 (Int.tmod (wrap64 (a0)) (ji15)) (Int.tmod (wrap64 (a2)) (ji15)) (Int.tmod (wrap64 (a1)) 1073741789) (Int.tmod (wrap64 (a3)) 1073741789) t338 bt342.1 true)) else (wageofficelaw27_RangeproofSums.j1 kj8 t337 ji13 (Int.tmod (wrap64 (a0)) (ji15)) (Int.tmod (wrap64 (a2)) (ji15)) (Int.tmod (wrap64 (a1)) 1073741789) (Int.tmod (wrap64 (a3)) 1073741789) t338 bt342.1 true))) = some r := H
      have A19 := Aside0.mk A190
      clear A190
      replace H := Option.bind_eq_some_iff.mp H
      obtain ⟨⟨t342, t343⟩, A200, H⟩ := H
      replace H : (if t339 = 0 then (if t343 = 0 then (if (t338.length : Int) = (ji13) then (wageofficelaw27_RangeproofSums.j1 kj8 t337 ji13 (Int.tmod (wrap64 (a0)) (ji15)) (Int.tmod (wrap64 (a2)) (ji15)) (Int.tmod (wrap64 (a1)) 1073741789) (Int.tmod (wrap64 (a3)) 1073741789) t338 t342 ((t342.length : Int) != (ji13))) else (wageofficelaw27_RangeproofSums.j1 kj8 t337 ji13 (Int.tmod (wrap64 (a0)) (ji15)) (Int.tmod (wrap64 (a2)) (ji15)) (Int.tmod (wrap64 (a1)) 1073741789) (Int.tmod (wrap64 (a3)) 1073741789) t338 t342 true)) else (wageofficelaw27_RangeproofSums.j1 kj8 t337 ji13 (Int.tmod (wrap64 (a0)) (ji15)) (Int.tmod (wrap64 (a2)) (ji15)) (Int.tmod (wrap64 (a1)) 1073741789) (Int.tmod (wrap64 (a3)) 1073741789) t338 t342 true)) else (wageofficelaw27_RangeproofSums.j1 kj8 t337 ji13 (Int.tmod (wrap64 (a0)) (ji15)) (Int.tmod (wrap64 (a2)) (ji15)) (Int.tmod (wrap64 (a1)) 1073741789) (Int.tmod (wrap64 (a3)) 1073741789) t338 t342 true)) = some r := H
      have A20 := Aside0.mk A200
      clear A200
      have HC21 := Aside0.mk H
      clear H
      try go_wp2
      have n0_ := Aside0.mk (below_drew1 HB.out)
      clear HB
      have HB := n0_
      clear n0_
      refine start_ (n := 12) (S := fun w' => True) (ds := []) #[false, false, false, false, false, false, false, false, false, false, false, false] (by kernel_rfl) rfl rfl trivial (fun hHeld => ?_); refine with_tabW wageofficelaw27_RangeproofSums.tab5 wageofficelaw27_RangeproofSums.bits5 (fun HT_ HW_ => ?_)
      generalize wc.drew = w22 at HB hHeld ⊢
      refine pure_ (i := 0) (N := some 45) (v := ?_) (a' := ?_) #[true, false, false, false, false, false, false, false, false, false, false, false] rfl rfl (any_of HT_.out (by kernel_rfl)) (fun _ _ _ h => h) (Or.inl ⟨by rfl, ?_⟩) ?_ ?_
      rotate_left
      ·intro w'
       go_simp
       with_reducible rfl
      rotate_left
      ·simp only [Act.put, List.setIfInBounds_toArray, List.set_cons_zero, List.set_cons_succ, i64_w, i32_w]
       rfl
      refine pure_ (i := 1) (N := some 46) (v := ?_) (a' := ?_) #[true, true, false, false, false, false, false, false, false, false, false, false] rfl rfl (any_of HT_.out (by kernel_rfl)) (fun _ _ _ h => h) (Or.inl ⟨by rfl, ?_⟩) ?_ ?_
      rotate_left
      ·intro w'
       go_simp
       with_reducible rfl
      rotate_left
      ·simp only [Act.put, List.setIfInBounds_toArray, List.set_cons_zero, List.set_cons_succ, i64_w, i32_w]
       rfl
      refine pure_ (i := 2) (N := some 47) (v := ?_) (a' := ?_) #[true, true, true, false, false, false, false, false, false, false, false, false] rfl rfl (any_of HT_.out (by kernel_rfl)) (fun _ _ _ h => h) (Or.inl ⟨by rfl, ?_⟩) ?_ ?_
      rotate_left
      ·intro w'
       go_simp
       with_reducible rfl
      rotate_left
      ·simp only [Act.put, List.setIfInBounds_toArray, List.set_cons_zero, List.set_cons_succ, i64_w, i32_w]
       rfl
      refine pure_ (i := 3) (N := some 48) (v := ?_) (a' := ?_) #[true, true, true, true, false, false, false, false, false, false, false, false] rfl rfl (any_of HT_.out (by kernel_rfl)) (fun _ _ _ h => h) (Or.inl ⟨by rfl, ?_⟩) ?_ ?_
      rotate_left
      ·intro w'
       go_simp
       with_reducible rfl
      rotate_left
      ·simp only [Act.put, List.setIfInBounds_toArray, List.set_cons_zero, List.set_cons_succ, i64_w, i32_w]
       rfl
      refine pure_ (i := 4) (N := some 49) (v := ?_) (a' := ?_) #[true, true, true, true, true, false, false, false, false, false, false, false] rfl rfl (any_of HT_.out (by kernel_rfl)) (fun _ _ _ h => h) (Or.inl ⟨by rfl, ?_⟩) ?_ ?_
      rotate_left
      ·intro w'
       go_simp
       with_reducible rfl
      rotate_left
      ·simp only [Act.put, List.setIfInBounds_toArray, List.set_cons_zero, List.set_cons_succ, i64_w, i32_w]
       rfl
      refine pure_ (i := 5) (N := some 50) (v := ?_) (a' := ?_) #[true, true, true, true, true, true, false, false, false, false, false, false] rfl rfl (any_of HT_.out (by kernel_rfl)) (fun _ _ _ h => h) (Or.inl ⟨by rfl, ?_⟩) ?_ ?_
      rotate_left
      ·intro w'
       go_simp
       with_reducible rfl
      rotate_left
      ·simp only [Act.put, List.setIfInBounds_toArray, List.set_cons_zero, List.set_cons_succ, i64_w, i32_w]
       rfl
      refine pure_ (i := 6) (N := some 51) (v := ?_) (a' := ?_) #[true, true, true, true, true, true, true, false, false, false, false, false] rfl rfl (any_of HT_.out (by kernel_rfl)) (fun _ _ _ h => h) (Or.inl ⟨by rfl, ?_⟩) ?_ ?_
      rotate_left
      ·intro w'
       go_simp
       with_reducible rfl
      rotate_left
      ·simp only [Act.put, List.setIfInBounds_toArray, List.set_cons_zero, List.set_cons_succ, i64_w, i32_w]
       rfl
      refine pure_ (i := 7) (N := some 52) (v := ?_) (a' := ?_) #[true, true, true, true, true, true, true, true, false, false, false, false] rfl rfl (any_of HT_.out (by kernel_rfl)) (fun _ _ _ h => h) (Or.inl ⟨by rfl, ?_⟩) ?_ ?_
      rotate_left
      ·intro w'
       go_simp
       with_reducible rfl
      rotate_left
      ·simp only [Act.put, List.setIfInBounds_toArray, List.set_cons_zero, List.set_cons_succ, i64_w, i32_w]
       rfl
      refine pure_ (i := 8) (N := some 53) (v := ?_) (a' := ?_) #[true, true, true, true, true, true, true, true, true, false, false, false] rfl rfl (any_of HT_.out (by kernel_rfl)) (fun _ _ _ h => h) (Or.inl ⟨by rfl, ?_⟩) ?_ ?_
      rotate_left
      ·intro w'
       go_simp
       with_reducible rfl
      rotate_left
      ·simp only [Act.put, List.setIfInBounds_toArray, List.set_cons_zero, List.set_cons_succ, i64_w, i32_w]
       rfl
      refine pure_ (i := 9) (N := some 54) (v := ?_) (a' := ?_) #[true, true, true, true, true, true, true, true, true, true, false, false] rfl rfl (any_of HT_.out (by kernel_rfl)) (fun _ _ _ h => h) (Or.inl ⟨by rfl, ?_⟩) ?_ ?_
      rotate_left
      ·intro w'
       go_simp
       with_reducible rfl
      rotate_left
      ·simp only [Act.put, List.setIfInBounds_toArray, List.set_cons_zero, List.set_cons_succ, i64_w, i32_w]
       rfl
      refine pure_ (i := 10) (N := some 17) (v := ?_) (a' := ?_) #[true, true, true, true, true, true, true, true, true, true, true, false] rfl rfl (any_of HT_.out (by kernel_rfl)) (fun _ _ _ h => h) (Or.inl ⟨by rfl, ?_⟩) ?_ ?_
      rotate_left
      ·intro w'
       go_simp
       with_reducible rfl
      rotate_left
      ·simp only [Act.put, List.setIfInBounds_toArray, List.set_cons_zero, List.set_cons_succ, i64_w, i32_w]
       rfl
      refine pure_ (i := 11) (N := some 18) (v := ?_) (a' := ?_) #[true, true, true, true, true, true, true, true, true, true, true, true] rfl rfl (any_of HT_.out (by kernel_rfl)) (fun _ _ _ h => h) (Or.inl ⟨by rfl, ?_⟩) ?_ ?_
      rotate_left
      ·intro w'
       go_simp
       with_reducible rfl
      rotate_left
      ·simp only [Act.put, List.setIfInBounds_toArray, List.set_cons_zero, List.set_cons_succ, i64_w, i32_w]
       rfl
      refine done_ (done_of HT_.out (by kernel_rfl)) ?_
      go_upto_region 9 with (first | ((with_reducible refine gate_callee (f := 10) rfl ?_); refine goesL_ (some 66) rfl rfl Tryd.func10 (by kernel_rfl) rfl #[.int .i64 (Int.tmod (wrap64 (a0)) (ji15)), .int .i64 (Int.tmod (wrap64 (a1)) 1073741789), .int .i64 ji13, .string a5] rfl (by (try simp only [List.map_toArray, List.map_cons, List.map_nil]); first | done | (simp only [hji13, hji15]; rfl) | rfl | (simp only [List.length_drop, List.length_take]; rfl)) ?_; (with_reducible refine (rangeproof_Prove.calls kj8 (Int.tmod (wrap64 (a0)) (ji15)) (Int.tmod (wrap64 (a1)) 1073741789) ji13 a5 t338 t339 _ A19.out (TabGen.below hTGen.out (by repeat (first | exact HB.out | exact Below.refl _ _ | apply below_alloc | apply pw_below_drewN | apply below_drew1 | apply below_drew))) (TabTen.below hTTen.out (by repeat (first | exact HB.out | exact Below.refl _ _ | apply below_alloc | apply pw_below_drewN | apply below_drew1 | apply below_drew)))).mono ?_); rintro e w23 ⟨v340, rfl, ho0, hb⟩; refine ⟨_, rfl, ?_⟩; have n0_ := Aside0.mk (Kd.R_lower ho0 (below_size (by repeat (first | (with_reducible first | exact HB.out | apply below_alloc | apply pw_below_drewN | apply below_drew1) | exact HB.out)))); have n1_ := Aside0.mk (below_step (by repeat (first | (with_reducible first | exact HB.out | apply below_alloc | apply pw_below_drewN | apply below_drew1) | exact HB.out)) hb); clear HB; have HO341 := n0_; have HB := n1_; clear n0_ n1_; (try clear hb); (try clear hb2); (try clear hk); (try clear hi); (try clear ho0)) | ((with_reducible refine gate_callee (f := 10) rfl ?_); refine goesL_ (some 74) rfl rfl Tryd.func10 (by kernel_rfl) rfl #[.int .i64 (Int.tmod (wrap64 (a2)) (ji15)), .int .i64 (Int.tmod (wrap64 (a3)) 1073741789), .int .i64 ji13, .string a6] rfl (by (try simp only [List.map_toArray, List.map_cons, List.map_nil]); first | done | (simp only [hji13, hji15]; rfl) | rfl | (simp only [List.length_drop, List.length_take]; rfl)) ?_; (with_reducible refine (rangeproof_Prove.calls kj8 (Int.tmod (wrap64 (a2)) (ji15)) (Int.tmod (wrap64 (a3)) 1073741789) ji13 a6 t342 t343 _ A20.out (TabGen.below hTGen.out (by repeat (first | exact HB.out | exact Below.refl _ _ | apply below_alloc | apply pw_below_drewN | apply below_drew1 | apply below_drew))) (TabTen.below hTTen.out (by repeat (first | exact HB.out | exact Below.refl _ _ | apply below_alloc | apply pw_below_drewN | apply below_drew1 | apply below_drew)))).mono ?_); rintro e w24 ⟨v344, rfl, ho0, hb⟩; refine ⟨_, rfl, ?_⟩; have n0_ := Aside0.mk (Kd.R_elder' (by (with_reducible repeat (first | apply Kd.R_alloc | apply Kd.R_drewN | apply Kd.R_drew)); exact HO341.out) (Kd.R_base ho0) hb); have n1_ := Aside0.mk (Kd.R_lower (Kd.R_new' ho0 (Kd.R_lt (by (with_reducible repeat (first | apply Kd.R_alloc | apply Kd.R_drewN | apply Kd.R_drew)); exact HO341.out))) (below_size (by repeat (first | (with_reducible first | exact HB.out | apply below_alloc | apply pw_below_drewN | apply below_drew1) | exact HB.out)))); have n2_ := Aside0.mk (below_step (by repeat (first | (with_reducible first | exact HB.out | apply below_alloc | apply pw_below_drewN | apply below_drew1) | exact HB.out)) hb); clear HO341; clear HB; have HO341 := n0_; have HO345 := n1_; have HB := n2_; clear n0_ n1_ n2_; (try clear hb); (try clear hb2); (try clear hk); (try clear hi); (try clear ho0)))
      (try simp only [Act.put, List.setIfInBounds_toArray, List.set_cons_zero, List.set_cons_succ])
      go_cut [94] (fun v94 wc => ∃ (kq : Nat) (x94_20 : Bool), v94 = .bool x94_20 ∧ Aside0 (wageofficelaw27_RangeproofSums.j1 kq t337 ji13 (Int.tmod (wrap64 (a0)) (ji15)) (Int.tmod (wrap64 (a2)) (ji15)) (Int.tmod (wrap64 (a1)) 1073741789) (Int.tmod (wrap64 (a3)) 1073741789) t338 t342 x94_20 = some r) ∧ Aside0 (kq ≤ kj8) ∧ Aside0 (Kd.R k25 25 wc w.heap.size (fun k_ => some k_ ≠ (v344 : Value).ownBlock) v340 t338) ∧ Aside0 (Kd.R k25 25 wc w.heap.size (fun k_ => some k_ ≠ (v340 : Value).ownBlock) v344 t342) ∧ Aside0 (Below w.heap.size w wc))
      case first =>
       have H := HC21.out
       clear HC21
       by_cases c25 : t339 = 0
       ·rw [if_pos c25] at H
        have c25b0 : (t339 == 0) = true := beq_iff_eq.mpr c25
        have c25b1 : (t339 != 0) = false := bne_eq_false_iff_eq.mpr c25
        clear c25
        (first | rw [c25b0] | (simp only [i64_w, i32_w]; rw [c25b0]) | skip)
        by_cases c26 : t343 = 0
        ·rw [if_pos c26] at H
         have c26b0 : (t343 == 0) = true := beq_iff_eq.mpr c26
         have c26b1 : (t343 != 0) = false := bne_eq_false_iff_eq.mpr c26
         clear c26
         by_cases c27 : (t338.length : Int) = (ji13)
         ·rw [if_pos c27] at H
          have c27b0 : ((t338.length : Int) == (ji13)) = true := beq_iff_eq.mpr c27
          have c27b1 : ((t338.length : Int) != (ji13)) = false := bne_eq_false_iff_eq.mpr c27
          clear c27
          have H' := Aside0.mk H
          clear H
          obtain ⟨Ao28, co28, eo28⟩ := Kd.R_slice HO341.out
          subst eo28
          obtain ⟨Ao29, co29, eo29⟩ := Kd.R_slice HO345.out
          subst eo29
          go_wp2
          go_meet
          case rel => exact ⟨_, (((t342.length : Int) != (ji13))), (by first | rfl | (simp; done) | (simp only [← hji13] <;> (first | rfl | simp)) | (simp [*]; done)), H', ⟨by have := HJ8.out; first | omega | exact Nat.le_refl _⟩, ⟨by (with_reducible repeat (first | apply Kd.R_alloc | apply Kd.R_drewN | apply Kd.R_drew)); exact Kd.R_mono HO341.out (fun _ hk => hk.2)⟩, ⟨by (with_reducible repeat (first | apply Kd.R_alloc | apply Kd.R_drewN | apply Kd.R_drew)); exact Kd.R_mono HO345.out (fun _ hk => hk.2)⟩, ⟨by repeat (first | (with_reducible first | exact HB.out | apply below_alloc | apply pw_below_drewN | apply below_drew1) | exact HB.out)⟩⟩
         ·rw [if_neg c27] at H
          have c27b0 : ((t338.length : Int) == (ji13)) = false := beq_eq_false_iff_ne.mpr c27
          have c27b1 : ((t338.length : Int) != (ji13)) = true := bne_iff_ne.mpr c27
          have H' := Aside0.mk H
          clear H
          obtain ⟨Ao30, co30, eo30⟩ := Kd.R_slice HO341.out
          subst eo30
          go_wp2
          go_meet
          case rel => exact ⟨_, (true), (by first | rfl | (simp; done) | (simp [*]; done)), H', ⟨by have := HJ8.out; first | omega | exact Nat.le_refl _⟩, ⟨by (with_reducible repeat (first | apply Kd.R_alloc | apply Kd.R_drewN | apply Kd.R_drew)); exact Kd.R_mono HO341.out (fun _ hk => hk.2)⟩, ⟨by (with_reducible repeat (first | apply Kd.R_alloc | apply Kd.R_drewN | apply Kd.R_drew)); exact Kd.R_mono HO345.out (fun _ hk => hk.2)⟩, ⟨by repeat (first | (with_reducible first | exact HB.out | apply below_alloc | apply pw_below_drewN | apply below_drew1) | exact HB.out)⟩⟩
        ·rw [if_neg c26] at H
         have c26b0 : (t343 == 0) = false := beq_eq_false_iff_ne.mpr c26
         have c26b1 : (t343 != 0) = true := bne_iff_ne.mpr c26
         have H' := Aside0.mk H
         clear H
         go_wp2
         go_meet
         case rel => exact ⟨_, (true), (by first | rfl | (simp; done) | (simp [*]; done)), H', ⟨by have := HJ8.out; first | omega | exact Nat.le_refl _⟩, ⟨by (with_reducible repeat (first | apply Kd.R_alloc | apply Kd.R_drewN | apply Kd.R_drew)); exact Kd.R_mono HO341.out (fun _ hk => hk.2)⟩, ⟨by (with_reducible repeat (first | apply Kd.R_alloc | apply Kd.R_drewN | apply Kd.R_drew)); exact Kd.R_mono HO345.out (fun _ hk => hk.2)⟩, ⟨by repeat (first | (with_reducible first | exact HB.out | apply below_alloc | apply pw_below_drewN | apply below_drew1) | exact HB.out)⟩⟩
       ·rw [if_neg c25] at H
        have c25b0 : (t339 == 0) = false := beq_eq_false_iff_ne.mpr c25
        have c25b1 : (t339 != 0) = true := bne_iff_ne.mpr c25
        (first | rw [c25b0] | (simp only [i64_w, i32_w]; rw [c25b0]) | skip)
        have H' := Aside0.mk H
        clear H
        go_wp2
        go_meet
        case rel => exact ⟨_, (true), (by first | rfl | (simp; done) | (simp [*]; done)), H', ⟨by have := HJ8.out; first | omega | exact Nat.le_refl _⟩, ⟨by (with_reducible repeat (first | apply Kd.R_alloc | apply Kd.R_drewN | apply Kd.R_drew)); exact Kd.R_mono HO341.out (fun _ hk => hk.2)⟩, ⟨by (with_reducible repeat (first | apply Kd.R_alloc | apply Kd.R_drewN | apply Kd.R_drew)); exact Kd.R_mono HO345.out (fun _ hk => hk.2)⟩, ⟨by repeat (first | (with_reducible first | exact HB.out | apply below_alloc | apply pw_below_drewN | apply below_drew1) | exact HB.out)⟩⟩
      case rest =>
       clear HC21
       try clear c1
       try clear c2
       try clear p2
       try clear p6
       try clear c8
       try clear c9
       try clear c10
       try clear c11
       try clear c11b0
       try clear c11b1
       try clear c12
       try clear c14
       try clear c14b0
       try clear c14b1
       try clear c16
       try clear c16b0
       try clear c16b1
       try clear c17
       try clear c17b0
       try clear c18
       try clear c18b0
       try clear c25
       try clear c25b0
       try clear c25b1
       try clear c26
       try clear c26b0
       try clear c26b1
       try clear c27
       try clear c27b0
       try clear c27b1
       try clear p2
       obtain ⟨kq, x94_20, rfl, HA, HJ20, HO_21, HO_23, HB⟩ := hcut
       cases kq with
       | zero => exact absurd HA.out (by simp [wageofficelaw27_RangeproofSums.j1])
       | succ kj20 =>
        have H := HA.out
        clear HA
        simp only [wageofficelaw27_RangeproofSums.j1] at H
        by_cases c31 : x94_20 = true
        ·subst c31
         have H1 : (some false) = some r := by rw [if_pos rfl] at H; exact H
         clear H
         have H := H1
         clear H1
         exact absurd (H.trans (congrArg some hRT.out)) (by simp)
        ·replace c31 := Bool.eq_false_iff.mpr c31
         subst c31
         have H1 : (wageofficelaw27_RangeproofSums.l0 kj20 t337 ji13 (Int.tmod (wrap64 (a0)) (ji15)) (Int.tmod (wrap64 (a2)) (ji15)) (Int.tmod (wrap64 (a1)) 1073741789) (Int.tmod (wrap64 (a3)) 1073741789) t338 t342 1 0) = some r := by rw [if_neg (show ¬ (false = true) by decide)] at H; exact H
         clear H
         have H := H1
         clear H1
         have H' := Aside0.mk H
         clear H
         go_wp2
         go_loopg [25, 26] kj20 (fun kq v25 v26 w' => ∃ (x25_3 : Int) (x26_3 : Int), v25 = .int .i64 x25_3 ∧ v26 = .int .i64 x26_3 ∧ Aside0 (wageofficelaw27_RangeproofSums.l0 kq t337 ji13 (Int.tmod (wrap64 (a0)) (ji15)) (Int.tmod (wrap64 (a2)) (ji15)) (Int.tmod (wrap64 (a1)) 1073741789) (Int.tmod (wrap64 (a3)) 1073741789) t338 t342 x25_3 x26_3 = some r) ∧ Aside0 (kq ≤ kj20) ∧ Aside0 (Kd.R k25 25 w' w.heap.size (fun k_ => some k_ ≠ (v344 : Value).ownBlock) v340 t338) ∧ Aside0 (Kd.R k25 25 w' w.heap.size (fun k_ => some k_ ≠ (v340 : Value).ownBlock) v344 t342) ∧ Aside0 (Below w.heap.size w w'))
         case atStart => exact ⟨(1), (0), (by first | rfl | (simp; done) | (simp [*]; done)), (by first | rfl | (simp; done) | (simp [*]; done)), H', ⟨Nat.le_refl _⟩, ⟨by (with_reducible repeat (first | apply Kd.R_alloc | apply Kd.R_drewN | apply Kd.R_drew)); exact HO_21.out⟩, ⟨by (with_reducible repeat (first | apply Kd.R_alloc | apply Kd.R_drewN | apply Kd.R_drew)); exact HO_23.out⟩, ⟨by repeat (first | (with_reducible first | exact HB.out | apply below_alloc | apply pw_below_drewN | apply below_drew1) | exact HB.out)⟩⟩
         case round =>
          clear H'
          try clear c1
          try clear c2
          try clear p2
          try clear c3
          try clear p6
          try clear c8
          try clear c9
          try clear c10
          try clear c11
          try clear c11b0
          try clear c11b1
          try clear c12
          try clear c14
          try clear c14b0
          try clear c14b1
          try clear c16
          try clear c16b0
          try clear c16b1
          try clear c17
          try clear c17b0
          try clear c18
          try clear c18b0
          try clear c25
          try clear c25b0
          try clear c25b1
          try clear c26
          try clear c26b0
          try clear c26b1
          try clear c27
          try clear c27b0
          try clear c27b1
          try clear c31
          try clear p2
          try clear p6
          obtain ⟨x25_3, x26_3, rfl, rfl, HA, HK3, HO_21, HO_23, HB⟩ := hrel
          cases gk with
          | zero => exact absurd HA.out (by simp [wageofficelaw27_RangeproofSums.l0])
          | succ k3 =>
           have H := HA.out
           clear HA
           simp only [wageofficelaw27_RangeproofSums.l0] at H
           by_cases c32 : x26_3 < ji13
           ·rw [if_pos c32] at H
            have c32b0 : decide (x26_3 < ji13) = true := decide_eq_true c32
            clear c32
            by_cases c33 : 0 ≤ x26_3
            ·rw [if_pos c33] at H
             have c33b0 : decide (0 ≤ x26_3) = true := decide_eq_true c33
             clear c33
             by_cases c34 : x26_3 < (t338.length : Int)
             ·rw [if_pos c34] at H
              have c34b0 : decide (x26_3 < (t338.length : Int)) = true := decide_eq_true c34
              clear c34
              by_cases c35 : x26_3 < (t342.length : Int)
              ·rw [if_pos c35] at H
               have c35b0 : decide (x26_3 < (t342.length : Int)) = true := decide_eq_true c35
               clear c35
               replace H := Option.bind_eq_some_iff.mp H
               obtain ⟨⟨t350, t351⟩, A360, H⟩ := H
               replace H : (if t351 = 0 then ((commitment_Power.f t350 (shl .i64 1 x26_3)).bind fun t352 => (wageofficelaw27_RangeproofSums.l0 k3 t337 ji13 (Int.tmod (wrap64 (a0)) (ji15)) (Int.tmod (wrap64 (a2)) (ji15)) (Int.tmod (wrap64 (a1)) 1073741789) (Int.tmod (wrap64 (a3)) 1073741789) t338 t342 (Int.tmod (wrap64 (x25_3 * t352)) 2147483579) (wrap64 (x26_3 + 1)))) else (some false)) = some r := H
               have A36 := Aside0.mk A360
               clear A360
               by_cases c37 : t351 = 0
               ·rw [if_pos c37] at H
                have c37b0 : (t351 == 0) = true := beq_iff_eq.mpr c37
                have c37b1 : (t351 != 0) = false := bne_eq_false_iff_eq.mpr c37
                clear c37
                have c38b0 := eq_true (of_decide_eq_true (by first | (with_reducible assumption) | assumption) : 0 ≤ x26_3)
                obtain ⟨ji39, hji39⟩ : ∃ j_ : Int, (shl .i64 1 x26_3) = j_ := ⟨_, rfl⟩
                replace H : ((commitment_Power.f t350 (ji39)).bind fun t352 => (wageofficelaw27_RangeproofSums.l0 k3 t337 ji13 (Int.tmod (wrap64 (a0)) (ji15)) (Int.tmod (wrap64 (a2)) (ji15)) (Int.tmod (wrap64 (a1)) 1073741789) (Int.tmod (wrap64 (a3)) 1073741789) t338 t342 (Int.tmod (wrap64 (x25_3 * t352)) 2147483579) (wrap64 (x26_3 + 1)))) = some r := by first | (rw [hji39] at H; exact H) | (simp only [hji39] at H ⊢; exact H)
                (try rw [hji39] at A36)
                have hji39_ : (IntKind.i64.wrap (1 * 2 ^ min x26_3.toNat 64)) = ji39 := hji39
                have hji39z : x26_3 ≤ 64 → (IntKind.i64.wrap (1 * 2 ^ x26_3.toNat)) = ji39 := shl_small hji39
                have hji39u : (IntKind.i64.wrap (2 ^ min x26_3.toNat 64)) = ji39 := by have h_ := hji39_; rw [Int.one_mul] at h_; exact h_
                have hji39v : x26_3 ≤ 64 → (IntKind.i64.wrap (2 ^ x26_3.toNat)) = ji39 := fun hle_ => by have h_ := hji39z hle_; rw [Int.one_mul] at h_; exact h_
                have hji39y : (wrap64 (1 * 2 ^ min x26_3.toNat 64)) = ji39 := (i64_w _).symm.trans hji39_
                have hji39x : x26_3 ≤ 64 → (wrap64 (1 * 2 ^ x26_3.toNat)) = ji39 := fun h_ => (i64_w _).symm.trans (hji39z h_)
                replace H := Option.bind_eq_some_iff.mp H
                obtain ⟨t352, A400, H⟩ := H
                replace H : (wageofficelaw27_RangeproofSums.l0 k3 t337 ji13 (Int.tmod (wrap64 (a0)) (ji15)) (Int.tmod (wrap64 (a2)) (ji15)) (Int.tmod (wrap64 (a1)) 1073741789) (Int.tmod (wrap64 (a3)) 1073741789) t338 t342 (Int.tmod (wrap64 (x25_3 * t352)) 2147483579) (wrap64 (x26_3 + 1))) = some r := H
                have A40 := Aside0.mk A400
                clear A400
                have H' := Aside0.mk H
                clear H
                try go_wp2
                have n0_ := Aside0.mk (Kd.R_drew HO_21.out)
                have n1_ := Aside0.mk (Kd.R_drew HO_23.out)
                have n2_ := Aside0.mk (below_drew1 HB.out)
                clear HO_21
                clear HO_23
                clear HB
                have HO_21 := n0_
                have HO_23 := n1_
                have HB := n2_
                clear n0_ n1_ n2_
                obtain ⟨Ao42, co42, eo42⟩ := Kd.R_slice HO_21.out
                (first | subst eo42 | (injection eo42 with f1_ f2_ f3_; have f4_ := f1_.symm; have f5_ := f3_.symm; clear f1_ f2_ f3_; subst f4_; subst f5_))
                have p348 : 0 ≤ (x26_3 : Int) := of_decide_eq_true (by first | (with_reducible assumption) | assumption)
                have q348 : x26_3 < (t338.length : Int) := of_decide_eq_true (by first | (with_reducible assumption) | assumption)
                obtain ⟨ad348, e348, hx348_0, hx348_1, hx348_2, hx348_3, hx348_4, hx348_5, hx348_6⟩ := at_T25 (Kd.R_reads' HO_21.out).2.2 x26_3 p348 q348
                cases e348
                replace p348 := eq_true p348
                replace q348 := eq_true q348
                obtain ⟨Ao43, co43, eo43⟩ := Kd.R_slice HO_23.out
                (first | subst eo43 | (injection eo43 with f1_ f2_ f3_; have f4_ := f1_.symm; have f5_ := f3_.symm; clear f1_ f2_ f3_; subst f4_; subst f5_))
                have p349 : 0 ≤ (x26_3 : Int) := of_decide_eq_true (by first | (with_reducible assumption) | assumption)
                have q349 : x26_3 < (t342.length : Int) := of_decide_eq_true (by first | (with_reducible assumption) | assumption)
                obtain ⟨ad349, e349, hx349_0, hx349_1, hx349_2, hx349_3, hx349_4, hx349_5, hx349_6⟩ := at_T25 (Kd.R_reads' HO_23.out).2.2 x26_3 p349 q349
                cases e349
                replace p349 := eq_true p349
                replace q349 := eq_true q349
                refine start_ (n := 16) (S := fun w' => w'.cell? (ad348.add ((x26_3).toNat * 7)) = some (.int .i64 ((rd_T25 t338 x26_3).f0)) ∧ w'.cell? ⟨(ad348.add ((x26_3).toNat * 7)).block, (ad348.add ((x26_3).toNat * 7)).off + 1, none⟩ = some (.int .i64 ((rd_T25 t338 x26_3).f1.f0)) ∧ w'.cell? ⟨(ad348.add ((x26_3).toNat * 7)).block, (ad348.add ((x26_3).toNat * 7)).off + 2, none⟩ = some (.int .i64 ((rd_T25 t338 x26_3).f1.f1)) ∧ w'.cell? ⟨(ad348.add ((x26_3).toNat * 7)).block, (ad348.add ((x26_3).toNat * 7)).off + 3, none⟩ = some (.int .i64 ((rd_T25 t338 x26_3).f2.f0)) ∧ w'.cell? ⟨(ad348.add ((x26_3).toNat * 7)).block, (ad348.add ((x26_3).toNat * 7)).off + 4, none⟩ = some (.int .i64 ((rd_T25 t338 x26_3).f2.f1)) ∧ w'.cell? ⟨(ad348.add ((x26_3).toNat * 7)).block, (ad348.add ((x26_3).toNat * 7)).off + 5, none⟩ = some (.int .i64 ((rd_T25 t338 x26_3).f3.f0)) ∧ w'.cell? ⟨(ad348.add ((x26_3).toNat * 7)).block, (ad348.add ((x26_3).toNat * 7)).off + 6, none⟩ = some (.int .i64 ((rd_T25 t338 x26_3).f3.f1)) ∧ w'.cell? (ad349.add ((x26_3).toNat * 7)) = some (.int .i64 ((rd_T25 t342 x26_3).f0)) ∧ w'.cell? ⟨(ad349.add ((x26_3).toNat * 7)).block, (ad349.add ((x26_3).toNat * 7)).off + 1, none⟩ = some (.int .i64 ((rd_T25 t342 x26_3).f1.f0)) ∧ w'.cell? ⟨(ad349.add ((x26_3).toNat * 7)).block, (ad349.add ((x26_3).toNat * 7)).off + 2, none⟩ = some (.int .i64 ((rd_T25 t342 x26_3).f1.f1)) ∧ w'.cell? ⟨(ad349.add ((x26_3).toNat * 7)).block, (ad349.add ((x26_3).toNat * 7)).off + 3, none⟩ = some (.int .i64 ((rd_T25 t342 x26_3).f2.f0)) ∧ w'.cell? ⟨(ad349.add ((x26_3).toNat * 7)).block, (ad349.add ((x26_3).toNat * 7)).off + 4, none⟩ = some (.int .i64 ((rd_T25 t342 x26_3).f2.f1)) ∧ w'.cell? ⟨(ad349.add ((x26_3).toNat * 7)).block, (ad349.add ((x26_3).toNat * 7)).off + 5, none⟩ = some (.int .i64 ((rd_T25 t342 x26_3).f3.f0)) ∧ w'.cell? ⟨(ad349.add ((x26_3).toNat * 7)).block, (ad349.add ((x26_3).toNat * 7)).off + 6, none⟩ = some (.int .i64 ((rd_T25 t342 x26_3).f3.f1))) (ds := []) #[false, false, false, false, false, false, false, false, false, false, false, false, false, false, false, false] (by kernel_rfl) rfl rfl ⟨hx348_0, hx348_1, hx348_2, hx348_3, hx348_4, hx348_5, hx348_6, hx349_0, hx349_1, hx349_2, hx349_3, hx349_4, hx349_5, hx349_6⟩ (fun hHeld => ?_); refine with_tabW wageofficelaw27_RangeproofSums.tab15 wageofficelaw27_RangeproofSums.bits15 (fun HT_ HW_ => ?_)
                generalize wr.drew = w41 at HO_21 HO_23 HB hx348_0 hx348_1 hx348_2 hx348_3 hx348_4 hx348_5 hx348_6 hx349_0 hx349_1 hx349_2 hx349_3 hx349_4 hx349_5 hx349_6 hHeld ⊢
                refine pure_ (i := 0) (N := some 101) (v := ?_) (a' := ?_) #[true, false, false, false, false, false, false, false, false, false, false, false, false, false, false, false] rfl rfl (any_of HT_.out (by kernel_rfl)) (fun _ _ _ h => h) (Or.inl ⟨by rfl, ?_⟩) ?_ ?_
                rotate_left
                ·intro w'
                 go_simp
                 with_reducible rfl
                rotate_left
                ·simp only [Act.put, List.setIfInBounds_toArray, List.set_cons_zero, List.set_cons_succ, i64_w, i32_w]
                 rfl
                refine pure_ (i := 1) (N := some 102) (v := ?_) (a' := ?_) #[true, true, false, false, false, false, false, false, false, false, false, false, false, false, false, false] rfl rfl (any_of HT_.out (by kernel_rfl)) (fun _ _ _ h => h) (Or.inl ⟨by rfl, ?_⟩) ?_ ?_
                rotate_left
                ·intro w'
                 go_simp
                 with_reducible rfl
                rotate_left
                ·simp only [Act.put, List.setIfInBounds_toArray, List.set_cons_zero, List.set_cons_succ, i64_w, i32_w]
                 rfl
                refine pure_ (i := 2) (N := some 103) (v := ?_) (a' := ?_) #[true, true, true, false, false, false, false, false, false, false, false, false, false, false, false, false] rfl rfl (any_of HT_.out (by kernel_rfl)) (fun _ _ _ h => h) (Or.inl ⟨by rfl, ?_⟩) ?_ ?_
                rotate_left
                ·intro w'
                 go_simp
                 with_reducible rfl
                rotate_left
                ·simp only [Act.put, List.setIfInBounds_toArray, List.set_cons_zero, List.set_cons_succ, i64_w, i32_w]
                 rfl
                refine pure_ (i := 3) (N := some 104) (v := ?_) (a' := ?_) #[true, true, true, true, false, false, false, false, false, false, false, false, false, false, false, false] rfl rfl (any_of HT_.out (by kernel_rfl)) (fun _ _ _ h => h) (Or.inl ⟨by rfl, ?_⟩) ?_ ?_
                rotate_left
                ·intro w'
                 go_simp
                 with_reducible rfl
                rotate_left
                ·simp only [Act.put, List.setIfInBounds_toArray, List.set_cons_zero, List.set_cons_succ, i64_w, i32_w]
                 rfl
                refine pure_ (i := 5) (N := some 106) (v := ?_) (a' := ?_) #[true, true, true, true, false, true, false, false, false, false, false, false, false, false, false, false] rfl rfl (any_of HT_.out (by kernel_rfl)) (fun _ _ _ h => h) (Or.inl ⟨by rfl, ?_⟩) ?_ ?_
                rotate_left
                ·intro w'
                 go_simp
                 with_reducible rfl
                rotate_left
                ·simp only [Act.put, List.setIfInBounds_toArray, List.set_cons_zero, List.set_cons_succ, i64_w, i32_w]
                 rfl
                refine pure_ (i := 6) (N := some 107) (v := ?_) (a' := ?_) #[true, true, true, true, false, true, true, false, false, false, false, false, false, false, false, false] rfl rfl (any_of HT_.out (by kernel_rfl)) (fun _ _ _ h => h) (Or.inl ⟨by rfl, ?_⟩) ?_ ?_
                rotate_left
                ·intro w'
                 go_simp
                 with_reducible rfl
                rotate_left
                ·simp only [Act.put, List.setIfInBounds_toArray, List.set_cons_zero, List.set_cons_succ, i64_w, i32_w]
                 rfl
                refine pure_ (i := 7) (N := some 108) (v := ?_) (a' := ?_) #[true, true, true, true, false, true, true, true, false, false, false, false, false, false, false, false] rfl rfl (any_of HT_.out (by kernel_rfl)) (fun _ _ _ h => h) (Or.inl ⟨by rfl, ?_⟩) ?_ ?_
                rotate_left
                ·intro w'
                 go_simp
                 with_reducible rfl
                rotate_left
                ·simp only [Act.put, List.setIfInBounds_toArray, List.set_cons_zero, List.set_cons_succ, i64_w, i32_w]
                 rfl
                refine pure_ (i := 8) (N := some 109) (v := ?_) (a' := ?_) #[true, true, true, true, false, true, true, true, true, false, false, false, false, false, false, false] rfl rfl (any_of HT_.out (by kernel_rfl)) (fun _ _ _ h => h) (Or.inl ⟨by rfl, ?_⟩) ?_ ?_
                rotate_left
                ·intro w'
                 go_simp
                 with_reducible rfl
                rotate_left
                ·simp only [Act.put, List.setIfInBounds_toArray, List.set_cons_zero, List.set_cons_succ, i64_w, i32_w]
                 rfl
                refine take_ (i := 4) (N := some 105) (v := ?_) (a' := ?_) #[true, true, true, true, true, true, true, true, true, false, false, false, false, false, false, false] rfl rfl (take_ofW HT_.out HW_.out (by kernel_rfl)) (fun _ _ _ h => h) (Or.inl ⟨by rfl, ?_⟩) hHeld ?_ ?_
                rotate_left
                ·rintro w' ⟨s0, s1, s2, s3, s4, s5, s6, s7, s8, s9, s10, s11, s12, s13⟩
                 go_simp
                 with_reducible rfl
                rotate_left
                ·simp only [Act.put, List.setIfInBounds_toArray, List.set_cons_zero, List.set_cons_succ, i64_w, i32_w]
                 rfl
                refine take_ (i := 9) (N := some 110) (v := ?_) (a' := ?_) #[true, true, true, true, true, true, true, true, true, true, false, false, false, false, false, false] rfl rfl (take_ofW HT_.out HW_.out (by kernel_rfl)) (fun _ _ _ h => h) (Or.inl ⟨by rfl, ?_⟩) hHeld ?_ ?_
                rotate_left
                ·rintro w' ⟨s0, s1, s2, s3, s4, s5, s6, s7, s8, s9, s10, s11, s12, s13⟩
                 go_simp
                 with_reducible rfl
                rotate_left
                ·simp only [Act.put, List.setIfInBounds_toArray, List.set_cons_zero, List.set_cons_succ, i64_w, i32_w]
                 rfl
                refine one_ (i := 10) (N := some 111) #[true, true, true, true, true, true, true, true, true, true, true, false, false, false, false, false] rfl rfl (one_of HT_.out (by kernel_rfl)) (by decide) (fun K hK => ?_)
                refine goes_ Tryd.func20 (by kernel_rfl) rfl #[.int .i64 ((rd_T25 t338 x26_3).f0), .int .i64 ((rd_T25 t342 x26_3).f0)] (by rfl) rfl rfl (by (try simp only [List.map_toArray, List.map_cons, List.map_nil]); first | done | rfl | (simp only [List.length_drop, List.length_take]; rfl)) ?_
                with_reducible refine (commitment_Add.calls ((rd_T25 t338 x26_3).f0) ((rd_T25 t342 x26_3).f0) t350 t351 _ A36.out).mono ?_
                rintro e w44 ⟨rfl, hb⟩
                have HS0_ := (hb.cell (World.block_lt_of_cell? _ _ (hHeld.1))).trans (hHeld.1)
                have HS1_ := (hb.cell (World.block_lt_of_cell? _ _ (hHeld.2.1))).trans (hHeld.2.1)
                have HS2_ := (hb.cell (World.block_lt_of_cell? _ _ (hHeld.2.2.1))).trans (hHeld.2.2.1)
                have HS3_ := (hb.cell (World.block_lt_of_cell? _ _ (hHeld.2.2.2.1))).trans (hHeld.2.2.2.1)
                have HS4_ := (hb.cell (World.block_lt_of_cell? _ _ (hHeld.2.2.2.2.1))).trans (hHeld.2.2.2.2.1)
                have HS5_ := (hb.cell (World.block_lt_of_cell? _ _ (hHeld.2.2.2.2.2.1))).trans (hHeld.2.2.2.2.2.1)
                have HS6_ := (hb.cell (World.block_lt_of_cell? _ _ (hHeld.2.2.2.2.2.2.1))).trans (hHeld.2.2.2.2.2.2.1)
                have HS7_ := (hb.cell (World.block_lt_of_cell? _ _ (hHeld.2.2.2.2.2.2.2.1))).trans (hHeld.2.2.2.2.2.2.2.1)
                have HS8_ := (hb.cell (World.block_lt_of_cell? _ _ (hHeld.2.2.2.2.2.2.2.2.1))).trans (hHeld.2.2.2.2.2.2.2.2.1)
                have HS9_ := (hb.cell (World.block_lt_of_cell? _ _ (hHeld.2.2.2.2.2.2.2.2.2.1))).trans (hHeld.2.2.2.2.2.2.2.2.2.1)
                have HS10_ := (hb.cell (World.block_lt_of_cell? _ _ (hHeld.2.2.2.2.2.2.2.2.2.2.1))).trans (hHeld.2.2.2.2.2.2.2.2.2.2.1)
                have HS11_ := (hb.cell (World.block_lt_of_cell? _ _ (hHeld.2.2.2.2.2.2.2.2.2.2.2.1))).trans (hHeld.2.2.2.2.2.2.2.2.2.2.2.1)
                have HS12_ := (hb.cell (World.block_lt_of_cell? _ _ (hHeld.2.2.2.2.2.2.2.2.2.2.2.2.1))).trans (hHeld.2.2.2.2.2.2.2.2.2.2.2.2.1)
                have HS13_ := (hb.cell (World.block_lt_of_cell? _ _ (hHeld.2.2.2.2.2.2.2.2.2.2.2.2.2))).trans (hHeld.2.2.2.2.2.2.2.2.2.2.2.2.2)
                refine ⟨_, rfl, ?_⟩
                have n0_ := Aside0.mk (Kd.R_below (by (with_reducible repeat (first | apply Kd.R_alloc | apply Kd.R_drewN | apply Kd.R_drew)); exact HO_21.out) hb)
                have n1_ := Aside0.mk (Kd.R_below (by (with_reducible repeat (first | apply Kd.R_alloc | apply Kd.R_drewN | apply Kd.R_drew)); exact HO_23.out) hb)
                have n2_ := Aside0.mk (below_step (by repeat (first | (with_reducible first | exact HB.out | apply below_alloc | apply pw_below_drewN | apply below_drew1) | exact HB.out)) hb)
                clear HO_21
                clear HO_23
                clear HB
                have HO_21 := n0_
                have HO_23 := n1_
                have HB := n2_
                clear n0_ n1_ n2_
                (try clear hb)
                (try clear hb2)
                (try clear hk)
                (try clear hi)
                refine hK.out _ _ ⟨HS0_, HS1_, HS2_, HS3_, HS4_, HS5_, HS6_, HS7_, HS8_, HS9_, HS10_, HS11_, HS12_, HS13_⟩ (fun hHeld => ?_)
                clear hK K
                refine norm_ (a' := ?_) ?_ ?_
                rotate_left
                ·show Act.put _ (some 111) _ = _
                 simp only [Act.put, List.setIfInBounds_toArray, List.set_cons_zero, List.set_cons_succ, i64_w, i32_w]
                 rfl
                refine pure_ (i := 11) (N := some 100) (v := ?_) (a' := ?_) #[true, true, true, true, true, true, true, true, true, true, true, true, false, false, false, false] rfl rfl (any_of HT_.out (by kernel_rfl)) (fun _ _ _ h => h) (Or.inl ⟨by rfl, ?_⟩) ?_ ?_
                rotate_left
                ·intro w'
                 go_simp
                 with_reducible rfl
                rotate_left
                ·simp only [Act.put, List.setIfInBounds_toArray, List.set_cons_zero, List.set_cons_succ, i64_w, i32_w]
                 rfl
                refine pure_ (i := 12) (N := some 112) (v := ?_) (a' := ?_) #[true, true, true, true, true, true, true, true, true, true, true, true, true, false, false, false] rfl rfl (any_of HT_.out (by kernel_rfl)) (fun _ _ _ h => h) (Or.inl ⟨by rfl, ?_⟩) ?_ ?_
                rotate_left
                ·intro w'
                 go_simp
                 with_reducible rfl
                rotate_left
                ·simp only [Act.put, List.setIfInBounds_toArray, List.set_cons_zero, List.set_cons_succ, i64_w, i32_w]
                 rfl
                refine pure_ (i := 13) (N := some 113) (v := ?_) (a' := ?_) #[true, true, true, true, true, true, true, true, true, true, true, true, true, true, false, false] rfl rfl (any_of HT_.out (by kernel_rfl)) (fun _ _ _ h => h) (Or.inl ⟨by rfl, ?_⟩) ?_ ?_
                rotate_left
                ·intro w'
                 go_simp
                 with_reducible rfl
                rotate_left
                ·simp only [Act.put, List.setIfInBounds_toArray, List.set_cons_zero, List.set_cons_succ, i64_w, i32_w]
                 rfl
                refine pure_ (i := 14) (N := some 27) (v := ?_) (a' := ?_) #[true, true, true, true, true, true, true, true, true, true, true, true, true, true, true, false] rfl rfl (any_of HT_.out (by kernel_rfl)) (fun _ _ _ h => h) (Or.inl ⟨by rfl, ?_⟩) ?_ ?_
                rotate_left
                ·intro w'
                 go_simp
                 with_reducible rfl
                rotate_left
                ·simp only [Act.put, List.setIfInBounds_toArray, List.set_cons_zero, List.set_cons_succ, i64_w, i32_w]
                 rfl
                refine pure_ (i := 15) (N := some 28) (v := ?_) (a' := ?_) #[true, true, true, true, true, true, true, true, true, true, true, true, true, true, true, true] rfl rfl (any_of HT_.out (by kernel_rfl)) (fun _ _ _ h => h) (Or.inl ⟨by rfl, ?_⟩) ?_ ?_
                rotate_left
                ·intro w'
                 go_simp
                 with_reducible rfl
                rotate_left
                ·simp only [Act.put, List.setIfInBounds_toArray, List.set_cons_zero, List.set_cons_succ, i64_w, i32_w]
                 rfl
                refine done_ (done_of HT_.out (by kernel_rfl)) ?_
                try go_wp2_with (first | ((with_reducible refine gate_callee (f := 18) rfl ?_); refine goesL_ (some 120) rfl rfl Tryd.func18 (by kernel_rfl) rfl #[.int .i64 t350, .int .i64 ji39] rfl (by (try simp only [List.map_toArray, List.map_cons, List.map_nil]); first | done | (simp only [hji39]; rfl) | rfl | (simp only [List.length_drop, List.length_take]; rfl)) ?_; (with_reducible refine (commitment_Power.calls t350 ji39 t352 _ A40.out).mono ?_); rintro e w45 ⟨rfl, hb⟩; refine ⟨_, rfl, ?_⟩; have n0_ := Aside0.mk (Kd.R_below (by (with_reducible repeat (first | apply Kd.R_alloc | apply Kd.R_drewN | apply Kd.R_drew)); exact HO_21.out) hb); have n1_ := Aside0.mk (Kd.R_below (by (with_reducible repeat (first | apply Kd.R_alloc | apply Kd.R_drewN | apply Kd.R_drew)); exact HO_23.out) hb); have n2_ := Aside0.mk (below_step (by repeat (first | (with_reducible first | exact HB.out | apply below_alloc | apply pw_below_drewN | apply below_drew1) | exact HB.out)) hb); clear HO_21; clear HO_23; clear HB; have HO_21 := n0_; have HO_23 := n1_; have HB := n2_; clear n0_ n1_ n2_; (try clear hb); (try clear hb2); (try clear hk); (try clear hi)))
                go_roundg k3
                case measure => have := HJ8.out; have := HJ20.out; have := HK3.out; omega
                case rel => exact ⟨(Int.tmod (wrap64 (x25_3 * t352)) 2147483579), (wrap64 (x26_3 + 1)), (by first | rfl | (simp; done) | (simp [*]; done)), (by first | rfl | (simp; done) | (simp [*]; done)), H', ⟨by have := HJ8.out; have := HJ20.out; have := HK3.out; omega⟩, ⟨by (with_reducible repeat (first | apply Kd.R_alloc | apply Kd.R_drewN | apply Kd.R_drew)); exact HO_21.out⟩, ⟨by (with_reducible repeat (first | apply Kd.R_alloc | apply Kd.R_drewN | apply Kd.R_drew)); exact HO_23.out⟩, ⟨by repeat (first | (with_reducible first | exact HB.out | apply below_alloc | apply pw_below_drewN | apply below_drew1) | exact HB.out)⟩⟩
               ·rw [if_neg c37] at H
                have c37b0 : (t351 == 0) = false := beq_eq_false_iff_ne.mpr c37
                have c37b1 : (t351 != 0) = true := bne_iff_ne.mpr c37
                exact absurd (H.trans (congrArg some hRT.out)) (by simp)
              ·rw [if_neg c35] at H
               exact absurd H (by simp)
             ·rw [if_neg c34] at H
              exact absurd H (by simp)
            ·rw [if_neg c33] at H
             exact absurd H (by simp)
           ·rw [if_neg c32] at H
            have c32b0 : decide (x26_3 < ji13) = false := decide_eq_false c32
            clear c32
            replace H := Option.bind_eq_some_iff.mp H
            obtain ⟨⟨t346, t347⟩, A460, H⟩ := H
            replace H : (if t337 = true then (if t347 = 0 then (some (x25_3 == t346)) else (some false)) else (some false)) = some r := H
            have A46 := Aside0.mk A460
            clear A460
            by_cases c47 : t337 = true
            ·subst c47
             have H1 : (if t347 = 0 then (some (x25_3 == t346)) else (some false)) = some r := by rw [if_pos rfl] at H; exact H
             clear H
             have H := H1
             clear H1
             by_cases c48 : t347 = 0
             ·rw [if_pos c48] at H
              have c48b0 : (t347 == 0) = true := beq_iff_eq.mpr c48
              have c48b1 : (t347 != 0) = false := bne_eq_false_iff_eq.mpr c48
              clear c48
              obtain rfl := Option.some.inj H
              go_wp2_with (first | ((with_reducible refine gate_callee (f := 17) rfl ?_); refine goesL_ (some 131) rfl rfl Tryd.func17 (by kernel_rfl) rfl #[.int .i64 (wrap64 ((Int.tmod (wrap64 (a0)) (ji15)) + (Int.tmod (wrap64 (a2)) (ji15)))), .int .i64 (Int.tmod (wrap64 ((Int.tmod (wrap64 (a1)) 1073741789) + (Int.tmod (wrap64 (a3)) 1073741789))) 1073741789)] rfl (by (try simp only [List.map_toArray, List.map_cons, List.map_nil]); first | done | (simp only [hji15]; rfl) | rfl | (simp only [List.length_drop, List.length_take]; rfl)) ?_; (with_reducible refine (commitment_Commit.calls (wrap64 ((Int.tmod (wrap64 (a0)) (ji15)) + (Int.tmod (wrap64 (a2)) (ji15)))) (Int.tmod (wrap64 ((Int.tmod (wrap64 (a1)) 1073741789) + (Int.tmod (wrap64 (a3)) 1073741789))) 1073741789) t346 t347 _ A46.out (TabGen.below hTGen.out (by repeat (first | exact HB.out | exact Below.refl _ _ | apply below_alloc | apply pw_below_drewN | apply below_drew1 | apply below_drew)))).mono ?_); rintro e w49 ⟨rfl, hb⟩; refine ⟨_, rfl, ?_⟩; have n0_ := Aside0.mk (Kd.R_below (by (with_reducible repeat (first | apply Kd.R_alloc | apply Kd.R_drewN | apply Kd.R_drew)); exact HO_21.out) hb); have n1_ := Aside0.mk (Kd.R_below (by (with_reducible repeat (first | apply Kd.R_alloc | apply Kd.R_drewN | apply Kd.R_drew)); exact HO_23.out) hb); have n2_ := Aside0.mk (below_step (by repeat (first | (with_reducible first | exact HB.out | apply below_alloc | apply pw_below_drewN | apply below_drew1) | exact HB.out)) hb); clear HO_21; clear HO_23; clear HB; have HO_21 := n0_; have HO_23 := n1_; have HB := n2_; clear n0_ n1_ n2_; (try clear hb); (try clear hb2); (try clear hk); (try clear hi)))
              go_ret
              exact ⟨by first | rfl | (simp [errW_none, errW_some] <;> rfl) | (simp only [← hji13, ← hji15]; first | rfl | (simp [errW_none, errW_some] <;> rfl)) | (simp [*, errW_none, errW_some] <;> rfl), by repeat (first | (with_reducible first | exact HB.out | apply below_alloc | apply pw_below_drewN | apply below_drew1) | exact HB.out)⟩
             ·rw [if_neg c48] at H
              have c48b0 : (t347 == 0) = false := beq_eq_false_iff_ne.mpr c48
              have c48b1 : (t347 != 0) = true := bne_iff_ne.mpr c48
              exact absurd (H.trans (congrArg some hRT.out)) (by simp)
            ·replace c47 := Bool.eq_false_iff.mpr c47
             subst c47
             have H1 : (some false) = some r := by rw [if_neg (show ¬ (false = true) by decide)] at H; exact H
             clear H
             have H := H1
             clear H1
             exact absurd (H.trans (congrArg some hRT.out)) (by simp)
    ·rw [if_neg c14] at H
     exact absurd H (by simp)

/-- THE ONE PURE STATEMENT of wageofficelaw27_RangeproofSums: yours. -/
def wageofficelaw27_RangeproofSums.Pure : Prop := ∀ (a0 : Int) (a1 : Int) (a2 : Int) (a3 : Int) (a4 : Int) (a5 : ByteArray) (a6 : ByteArray), (Lit.int .u32 a0).wf = true → (Lit.int .u32 a1).wf = true → (Lit.int .u32 a2).wf = true → (Lit.int .u32 a3).wf = true → (Lit.int .u8 a4).wf = true → a5.size ≤ 140737488351232 → a6.size ≤ 140737488351232 → ∃ k, wageofficelaw27_RangeproofSums.f k a0 a1 a2 a3 a4 a5 a6 = some true
end Go.Proofs.YtnlgnmlobklobaaDoor.PAll
