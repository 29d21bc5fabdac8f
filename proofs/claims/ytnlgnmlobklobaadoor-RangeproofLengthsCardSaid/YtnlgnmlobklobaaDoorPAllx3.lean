-- Written by myprint.py over the kit's print.py (a printed text of this session's own make).
import Derived.Test.YtnlgnmlobklobaaDoorPAllx0
import Derived.Test.YtnlgnmlobklobaaDoorPAllx1
-- HALF the printed indentation
namespace Go.Proofs.YtnlgnmlobklobaaDoor.PAll
open Go.Proofs.YtnlgnmlobklobaaDoor.Stub Go.Proofs.YtnlgnmlobklobaaDoor.Com Go.Proofs.YtnlgnmlobklobaaDoor.Hash
open Go.RowKit Go.Proofs.YtnlgnmlobklobaaDoorW.PrintWords Go.Proofs.YtnlgnmlobklobaaDoorW.PrintLast Go.Proofs.YtnlgnmlobklobaaDoorW.PrintMore
attribute [local go_sem] max2_int min2_int max_two min_two max_three min_three max_four min_four   -- for this text's walks alone
set_option linter.unusedVariables false
set_option linter.unusedSimpArgs false

/-! ### rangeproof_Verify: function 15 -/
mutual
def rangeproof_Verify.j0 : Nat → Int → List (S25) → Bool → Option (Bool)
 | 0, _, _, _ => none
 | k + 1, x0, x2, x21 => if x21 = true then (some false) else (rangeproof_Verify.l0 k x0 1 x2 (x2.length : Int) 0)
def rangeproof_Verify.l0 : Nat → Int → Int → List (S25) → Int → Int → Option (Bool)
 | 0, _, _, _, _, _ => none
 | k + 1, x0, x7, x22, x23, x24 => if x24 < x23 then (if 0 ≤ x24 then (if x24 < (x22.length : Int) then ((rangeproof_isRight.f ((rd_T25 x22 x24).f0) ((rd_T25 x22 x24).f1.f0) ((rd_T25 x22 x24).f1.f1) ((rd_T25 x22 x24).f2.f0) ((rd_T25 x22 x24).f2.f1) ((rd_T25 x22 x24).f3.f0) ((rd_T25 x22 x24).f3.f1)).bind fun t149 => (if t149 = true then ((rangeproof_hash.f (⟨#[99]⟩ : ByteArray) (([(rd_T25 x22 x24).f0, (rd_T25 x22 x24).f1.f0, (rd_T25 x22 x24).f1.f1] : List Int))).bind fun t153 => (rangeproof_Verify.j2 k x0 x7 x24 x22 x23 x24 ((Int.tmod (wrap64 (((rd_T25 x22 x24).f2.f0) + ((rd_T25 x22 x24).f2.f1))) 1073741789) != t153) ((rd_T25 x22 x24).f0) ((rd_T25 x22 x24).f1.f0) ((rd_T25 x22 x24).f1.f1) ((rd_T25 x22 x24).f2.f0) ((rd_T25 x22 x24).f2.f1) ((rd_T25 x22 x24).f3.f0) ((rd_T25 x22 x24).f3.f1))) else (rangeproof_Verify.j2 k x0 x7 x24 x22 x23 x24 true ((rd_T25 x22 x24).f0) ((rd_T25 x22 x24).f1.f0) ((rd_T25 x22 x24).f1.f1) ((rd_T25 x22 x24).f2.f0) ((rd_T25 x22 x24).f2.f1) ((rd_T25 x22 x24).f3.f0) ((rd_T25 x22 x24).f3.f1)))) else (none)) else (none)) else (some (x7 == x0))
def rangeproof_Verify.j2 : Nat → Int → Int → Int → List (S25) → Int → Int → Bool → Int → Int → Int → Int → Int → Int → Int → Option (Bool)
 | 0, _, _, _, _, _, _, _, _, _, _, _, _, _, _ => none
 | k + 1, x0, x7, x8, x22, x23, x24, x52, x149000, x149001, x149002, x149003, x149004, x149005, x149006 => if x52 = true then (some false) else (if 0 ≤ x8 then ((rangeproof_element_to.f x149000 (shl .i64 1 x8)).bind fun t154 => ((rangeproof_element_times.f x7 t154).bind fun t155 => (rangeproof_Verify.l0 k x0 t155 x22 x23 (wrap64 (x24 + 1))))) else (none))
end
def rangeproof_Verify.f (k : Nat) (a0 : Int) (a1 : Int) (l2 : List (S25)) : Option (Bool) := if a1 < 1 then (rangeproof_Verify.j0 k a0 l2 true) else (if a1 > 28 then (rangeproof_Verify.j0 k a0 l2 true) else (rangeproof_Verify.j0 k a0 l2 ((l2.length : Int) != a1)))
theorem rangeproof_Verify.mono_l : ∀ k, (∀ y0 y1 y2, LeO (rangeproof_Verify.j0 k y0 y1 y2) (rangeproof_Verify.j0 (k + 1) y0 y1 y2)) ∧ (∀ y0 y1 y2 y3 y4, LeO (rangeproof_Verify.l0 k y0 y1 y2 y3 y4) (rangeproof_Verify.l0 (k + 1) y0 y1 y2 y3 y4)) ∧ (∀ y0 y1 y2 y3 y4 y5 y6 y7 y8 y9 y10 y11 y12 y13, LeO (rangeproof_Verify.j2 k y0 y1 y2 y3 y4 y5 y6 y7 y8 y9 y10 y11 y12 y13) (rangeproof_Verify.j2 (k + 1) y0 y1 y2 y3 y4 y5 y6 y7 y8 y9 y10 y11 y12 y13))
 | 0 => ⟨fun _ _ _ r h => by simp [rangeproof_Verify.j0] at h, fun _ _ _ _ _ r h => by simp [rangeproof_Verify.l0] at h, fun _ _ _ _ _ _ _ _ _ _ _ _ _ _ r h => by simp [rangeproof_Verify.j2] at h⟩
 | k + 1 => by
  obtain ⟨ih0, ih1, ih2⟩ := rangeproof_Verify.mono_l k
  refine ⟨?_, ?_, ?_⟩
  ·intro y0 y1 y2
   unfold rangeproof_Verify.j0
   repeat' first
   | (with_reducible exact ih0 _ _ _)
   | (with_reducible exact ih1 _ _ _ _ _)
   | (with_reducible exact ih2 _ _ _ _ _ _ _ _ _ _ _ _ _ _)
   | (with_reducible exact LeO.refl _)
   | (with_reducible exact LeO.none _)
   | (with_reducible refine LeO.ite ?_ ?_)
   | (with_reducible refine LeO.bind ?_ (fun _ => ?_))
   | exact ih0 _ _ _
   | exact ih1 _ _ _ _ _
   | exact ih2 _ _ _ _ _ _ _ _ _ _ _ _ _ _
   | exact LeO.none _
   | refine LeO.ite ?_ ?_
   | refine LeO.bind ?_ (fun _ => ?_)
  ·intro y0 y1 y2 y3 y4
   unfold rangeproof_Verify.l0
   repeat' first
   | (with_reducible exact ih0 _ _ _)
   | (with_reducible exact ih1 _ _ _ _ _)
   | (with_reducible exact ih2 _ _ _ _ _ _ _ _ _ _ _ _ _ _)
   | (with_reducible exact LeO.refl _)
   | (with_reducible exact LeO.none _)
   | (with_reducible refine LeO.ite ?_ ?_)
   | (with_reducible refine LeO.bind ?_ (fun _ => ?_))
   | exact ih0 _ _ _
   | exact ih1 _ _ _ _ _
   | exact ih2 _ _ _ _ _ _ _ _ _ _ _ _ _ _
   | exact LeO.none _
   | refine LeO.ite ?_ ?_
   | refine LeO.bind ?_ (fun _ => ?_)
  ·intro y0 y1 y2 y3 y4 y5 y6 y7 y8 y9 y10 y11 y12 y13
   unfold rangeproof_Verify.j2
   repeat' first
   | (with_reducible exact ih0 _ _ _)
   | (with_reducible exact ih1 _ _ _ _ _)
   | (with_reducible exact ih2 _ _ _ _ _ _ _ _ _ _ _ _ _ _)
   | (with_reducible exact LeO.refl _)
   | (with_reducible exact LeO.none _)
   | (with_reducible refine LeO.ite ?_ ?_)
   | (with_reducible refine LeO.bind ?_ (fun _ => ?_))
   | exact ih0 _ _ _
   | exact ih1 _ _ _ _ _
   | exact ih2 _ _ _ _ _ _ _ _ _ _ _ _ _ _
   | exact LeO.none _
   | refine LeO.ite ?_ ?_
   | refine LeO.bind ?_ (fun _ => ?_)
theorem rangeproof_Verify.mono : ∀ a0 a1 a2 k, LeO (rangeproof_Verify.f k a0 a1 a2) (rangeproof_Verify.f (k + 1) a0 a1 a2) := by
 intro a0 a1 a2 k
 obtain ⟨ih0, ih1, ih2⟩ := rangeproof_Verify.mono_l k
 unfold rangeproof_Verify.f
 repeat' first
   | (with_reducible exact ih0 _ _ _)
   | (with_reducible exact ih1 _ _ _ _ _)
   | (with_reducible exact ih2 _ _ _ _ _ _ _ _ _ _ _ _ _ _)
   | (with_reducible exact LeO.refl _)
   | (with_reducible exact LeO.none _)
   | (with_reducible refine LeO.ite ?_ ?_)
   | (with_reducible refine LeO.bind ?_ (fun _ => ?_))
   | exact ih0 _ _ _
   | exact ih1 _ _ _ _ _
   | exact ih2 _ _ _ _ _ _ _ _ _ _ _ _ _ _
   | exact LeO.none _
   | refine LeO.ite ?_ ?_
   | refine LeO.bind ?_ (fun _ => ?_)
def rangeproof_Verify.T7 : Bool × List (List Nat × List Nat) := (true, [([], []), ([0], [0]), ([1], [1]), ([2, 1], [2]), ([3], [3]), ([4, 3], [3, 4]), ([5, 3], [3, 5]), ([3], [3]), ([7, 3], [3, 7]), ([8, 3], [3, 8]), ([6, 9, 3], [3, 6, 9]), ([10, 3], [3, 10]), ([3], [3]), ([12, 3], [3, 12]), ([3], [3]), ([14, 3], [3, 14]), ([15, 3], [3, 15]), ([3], [3]), ([17, 3], [3, 17]), ([18, 3], [3, 18]), ([13, 16, 19, 3], [3, 13, 16, 19]), ([20, 3, 3], [3, 20]), ([11, 21, 3], [3, 11, 21]), ([3, 22], [3, 22])])
def rangeproof_Verify.B7 : List Nat := [0, 1, 3, 7, 15, 31, 63, 15, 143, 399, 1023, 2047, 15, 4111, 15, 16399, 49167, 15, 131087, 393231, 1044495, 2093071, 4194303, 8388607]
theorem rangeproof_Verify.tab7 : rtab .any (opsOf Tryd.f15 7) = rangeproof_Verify.T7 := by kernel_rfl
theorem rangeproof_Verify.bits7 : waitsOk rangeproof_Verify.T7.2 rangeproof_Verify.B7 = true := by kernel_rfl
def rangeproof_Verify.T9 : Bool × List (List Nat × List Nat) := (true, [([], []), ([], []), ([1], [1]), ([], []), ([3], [3]), ([2, 4], [2, 4]), ([0, 5, 5], [0, 5]), ([6, 6, 0, 1, 2, 3, 4, 5, 6], [0, 6])])
def rangeproof_Verify.B9 : List Nat := [0, 0, 2, 0, 8, 30, 63, 127]
theorem rangeproof_Verify.tab9 : rtab .any (opsOf Tryd.f15 9) = rangeproof_Verify.T9 := by kernel_rfl
theorem rangeproof_Verify.bits9 : waitsOk rangeproof_Verify.T9.2 rangeproof_Verify.B9 = true := by kernel_rfl
set_option maxHeartbeats 8000000 in
set_option maxRecDepth 100000 in
theorem rangeproof_Verify.calls (k : Nat) (a0 : Int) (a1 : Int) (A2 : Option Addr) (c2 : Nat) (l2 : List (S25)) (r : Bool) (w : World) (hr2 : Kd.C k25 w A2 l2.length l2) (hc2 : l2.length ≤ c2) (h : rangeproof_Verify.f k a0 a1 l2 = some r) (hTTen0 : TabTen w) :
  Calls Tryd.prog 15 #[.int .i64 a0, .int .i64 a1, .slice A2 l2.length c2] w fun e w' => e = .returned (.bool r) ∧ Below w.heap.size w w' := by
 have hTTen := Aside0.mk hTTen0
 clear hTTen0
 have hu25 := Tryd.underlying25
 have HR2 := Aside0.mk hr2
 have HC2 := Aside0.mk hc2
 clear hr2 hc2
 have HB := Aside0.mk (Below.refl w.heap.size w)
 have H : (if a1 < 1 then (rangeproof_Verify.j0 k a0 l2 true) else (if a1 > 28 then (rangeproof_Verify.j0 k a0 l2 true) else (rangeproof_Verify.j0 k a0 l2 ((l2.length : Int) != a1)))) = some r := h
 clear h
 have HC4 := Aside0.mk H
 clear H
 go_enter Tryd.func15, Tryd.ntmps15
 go_upto_region 1 with (fail)
 go_cut [21] (fun v21 wc => ∃ (kq : Nat) (x21_3 : Bool), v21 = .bool x21_3 ∧ Aside0 (rangeproof_Verify.j0 kq a0 l2 x21_3 = some r) ∧ Aside0 (kq ≤ k) ∧ Aside0 (Below w.heap.size w wc))
 case first =>
  have H := HC4.out
  clear HC4
  by_cases c5 : a1 < 1
  ·rw [if_pos c5] at H
   have c5b0 : decide (a1 < 1) = true := decide_eq_true c5
   clear c5
   (first | rw [c5b0] | (simp only [i64_w, i32_w]; rw [c5b0]) | skip)
   have H' := Aside0.mk H
   clear H
   go_wp2
   go_meet
   case rel => exact ⟨_, (true), (by first | rfl | (simp; done) | (simp [*]; done)), H', ⟨by first | omega | exact Nat.le_refl _⟩, ⟨by repeat (first | (with_reducible first | exact HB.out | apply below_alloc | apply pw_below_drewN | apply below_drew1) | exact HB.out)⟩⟩
  ·rw [if_neg c5] at H
   have c5b0 : decide (a1 < 1) = false := decide_eq_false c5
   clear c5
   (first | rw [c5b0] | (simp only [i64_w, i32_w]; rw [c5b0]) | skip)
   by_cases c6 : a1 > 28
   ·rw [if_pos c6] at H
    have c6b0 : decide (28 < a1) = true := decide_eq_true c6
    clear c6
    have H' := Aside0.mk H
    clear H
    go_wp2
    go_meet
    case rel => exact ⟨_, (true), (by first | rfl | (simp; done) | (simp [*]; done)), H', ⟨by first | omega | exact Nat.le_refl _⟩, ⟨by repeat (first | (with_reducible first | exact HB.out | apply below_alloc | apply pw_below_drewN | apply below_drew1) | exact HB.out)⟩⟩
   ·rw [if_neg c6] at H
    have c6b0 : decide (28 < a1) = false := decide_eq_false c6
    clear c6
    have H' := Aside0.mk H
    clear H
    go_wp2
    go_meet
    case rel => exact ⟨_, (((l2.length : Int) != a1)), (by first | rfl | (simp; done) | (simp [*]; done)), H', ⟨by first | omega | exact Nat.le_refl _⟩, ⟨by repeat (first | (with_reducible first | exact HB.out | apply below_alloc | apply pw_below_drewN | apply below_drew1) | exact HB.out)⟩⟩
 case rest =>
  clear HC4
  try clear c1
  try clear c2
  try clear p2
  try clear c5
  try clear c5b0
  try clear c6
  try clear c6b0
  obtain ⟨kq, x21_3, rfl, HA, HJ3, HB⟩ := hcut
  cases kq with
  | zero => exact absurd HA.out (by simp [rangeproof_Verify.j0])
  | succ kj3 =>
   have H := HA.out
   clear HA
   simp only [rangeproof_Verify.j0] at H
   by_cases c7 : x21_3 = true
   ·subst c7
    have H1 : (some false) = some r := by rw [if_pos rfl] at H; exact H
    clear H
    have H := H1
    clear H1
    obtain rfl := Option.some.inj H
    go_wp2
    go_ret
    exact ⟨by first | rfl | (simp [errW_none, errW_some] <;> rfl) | (simp [*, errW_none, errW_some] <;> rfl), by repeat (first | (with_reducible first | exact HB.out | apply below_alloc | apply pw_below_drewN | apply below_drew1) | exact HB.out)⟩
   ·replace c7 := Bool.eq_false_iff.mpr c7
    subst c7
    have H1 : (rangeproof_Verify.l0 kj3 a0 1 l2 (l2.length : Int) 0) = some r := by rw [if_neg (show ¬ (false = true) by decide)] at H; exact H
    clear H
    have H := H1
    clear H1
    have H' := Aside0.mk H
    clear H
    go_wp2
    go_loopg [7, 24] kj3 (fun kq v7 v24 w' => ∃ (x7_2 : Int) (x24_2 : Int), v7 = .int .i64 x7_2 ∧ v24 = .int .i64 x24_2 ∧ Aside0 (rangeproof_Verify.l0 kq a0 x7_2 l2 (l2.length : Int) x24_2 = some r) ∧ Aside0 (kq ≤ kj3) ∧ Aside0 (Below w.heap.size w w'))
    case atStart => exact ⟨(1), (0), (by first | rfl | (simp; done) | (simp [*]; done)), (by first | rfl | (simp; done) | (simp [*]; done)), H', ⟨Nat.le_refl _⟩, ⟨by repeat (first | (with_reducible first | exact HB.out | apply below_alloc | apply pw_below_drewN | apply below_drew1) | exact HB.out)⟩⟩
    case round =>
     clear H'
     try clear c1
     try clear c2
     try clear p2
     try clear c5
     try clear c5b0
     try clear c6
     try clear c6b0
     try clear c7
     try clear p2
     obtain ⟨x7_2, x24_2, rfl, rfl, HA, HK2, HB⟩ := hrel
     cases gk with
     | zero => exact absurd HA.out (by simp [rangeproof_Verify.l0])
     | succ k2 =>
      have H := HA.out
      clear HA
      simp only [rangeproof_Verify.l0] at H
      by_cases c8 : x24_2 < (l2.length : Int)
      ·rw [if_pos c8] at H
       have c8b0 : decide (x24_2 < (l2.length : Int)) = true := decide_eq_true c8
       clear c8
       by_cases c9 : 0 ≤ x24_2
       ·rw [if_pos c9] at H
        have c9b0 : decide (0 ≤ x24_2) = true := decide_eq_true c9
        clear c9
        by_cases c10 : x24_2 < (l2.length : Int)
        ·rw [if_pos c10] at H
         have c10b0 : decide (x24_2 < (l2.length : Int)) = true := decide_eq_true c10
         clear c10
         have HC11 := Aside0.mk H
         clear H
         have p147 : 0 ≤ (x24_2 : Int) := of_decide_eq_true (by first | (with_reducible assumption) | assumption)
         have q147 : x24_2 < (l2.length : Int) := of_decide_eq_true (by first | (with_reducible assumption) | assumption)
         obtain ⟨ad147, e147, hx147_0, hx147_1, hx147_2, hx147_3, hx147_4, hx147_5, hx147_6⟩ := at_T25 HR2.out x24_2 p147 q147
         cases e147
         replace hx147_0 := (HB.out.cell (World.block_lt_of_cell? w _ hx147_0)).trans hx147_0
         replace hx147_1 := (HB.out.cell (World.block_lt_of_cell? w _ hx147_1)).trans hx147_1
         replace hx147_2 := (HB.out.cell (World.block_lt_of_cell? w _ hx147_2)).trans hx147_2
         replace hx147_3 := (HB.out.cell (World.block_lt_of_cell? w _ hx147_3)).trans hx147_3
         replace hx147_4 := (HB.out.cell (World.block_lt_of_cell? w _ hx147_4)).trans hx147_4
         replace hx147_5 := (HB.out.cell (World.block_lt_of_cell? w _ hx147_5)).trans hx147_5
         replace hx147_6 := (HB.out.cell (World.block_lt_of_cell? w _ hx147_6)).trans hx147_6
         replace p147 := eq_true p147
         replace q147 := eq_true q147
         go_upto_region 7 with (first | ((with_reducible refine gate_dst (N := 9) rfl ?_); (try (refine gate_guard (by rfl) ?_; dsimp only)); refine box_event ?hg (N := 9) ?hd (cs := #[.int .i64 0, .int .i64 0, .int .i64 0, .int .i64 0, .int .i64 0, .int .i64 0, .int .i64 0]) (t := 25) ?hr ?_; (case hd => rfl); (case hg => rfl); (case hr => first | (go_simp; done) | (go_simp; rfl)); intro gb148 hg w12 hbox hb; have n0_ := Aside0.mk (below_step (by repeat (first | (with_reducible first | exact HB.out | apply below_alloc | apply pw_below_drewN | apply below_drew1) | exact HB.out)) hb); have n1_ := Aside0.mk (hbox); have n2_ := Aside0.mk ((by rw [hg]; exact (below_size (by repeat (first | (with_reducible first | exact HB.out | apply below_alloc | apply pw_below_drewN | apply below_drew1) | exact HB.out))) : w.heap.size ≤ gb148)); have n3_ := Aside0.mk ((by rw [hg]; exact (below_size (by repeat (first | (with_reducible first | exact HB.out | apply below_alloc | apply pw_below_drewN | apply below_drew1) | exact HB.out))) : w.heap.size ≤ gb148)); clear HB; have HB := n0_; have BK148 := n1_; have GW148 := n2_; have GE148 := n3_; clear n0_ n1_ n2_ n3_; clear hb hbox hg; have hcz13_0 : w12.cell? ⟨gb148, 0, none⟩ = some (.int .i64 0) := (blk_cell BK148.out 0).trans rfl; have hcz13_1 : w12.cell? ⟨gb148, 1, none⟩ = some (.int .i64 0) := (blk_cell BK148.out 1).trans rfl; have hcz13_2 : w12.cell? ⟨gb148, 2, none⟩ = some (.int .i64 0) := (blk_cell BK148.out 2).trans rfl; have hcz13_3 : w12.cell? ⟨gb148, 3, none⟩ = some (.int .i64 0) := (blk_cell BK148.out 3).trans rfl; have hcz13_4 : w12.cell? ⟨gb148, 4, none⟩ = some (.int .i64 0) := (blk_cell BK148.out 4).trans rfl; have hcz13_5 : w12.cell? ⟨gb148, 5, none⟩ = some (.int .i64 0) := (blk_cell BK148.out 5).trans rfl; have hcz13_6 : w12.cell? ⟨gb148, 6, none⟩ = some (.int .i64 0) := (blk_cell BK148.out 6).trans rfl; have hfz13_0 := blk_frozen BK148.out 0; have hfz13_1 := blk_frozen BK148.out 1; have hfz13_2 := blk_frozen BK148.out 2; have hfz13_3 := blk_frozen BK148.out 3; have hfz13_4 := blk_frozen BK148.out 4; have hfz13_5 := blk_frozen BK148.out 5; have hfz13_6 := blk_frozen BK148.out 6))
         (try simp only [Act.put, List.setIfInBounds_toArray, List.set_cons_zero, List.set_cons_succ])
         go_cut [52] (fun v52 wc => ∃ (kq : Nat) (x52_10 : Bool), v52 = .bool x52_10 ∧ Aside0 (rangeproof_Verify.j2 kq a0 x7_2 x24_2 l2 (l2.length : Int) x24_2 x52_10 ((rd_T25 l2 x24_2).f0) ((rd_T25 l2 x24_2).f1.f0) ((rd_T25 l2 x24_2).f1.f1) ((rd_T25 l2 x24_2).f2.f0) ((rd_T25 l2 x24_2).f2.f1) ((rd_T25 l2 x24_2).f3.f0) ((rd_T25 l2 x24_2).f3.f1) = some r) ∧ Aside0 (kq ≤ k2) ∧ Aside0 (wc.heap[gb148]? = some (.cells #[.int .i64 ((rd_T25 l2 x24_2).f0), .int .i64 ((rd_T25 l2 x24_2).f1.f0), .int .i64 ((rd_T25 l2 x24_2).f1.f1), .int .i64 ((rd_T25 l2 x24_2).f2.f0), .int .i64 ((rd_T25 l2 x24_2).f2.f1), .int .i64 ((rd_T25 l2 x24_2).f3.f0), .int .i64 ((rd_T25 l2 x24_2).f3.f1)] 25 (0, 0))) ∧ Aside0 (Below w.heap.size w wc))
         case first =>
          have H := HC11.out
          clear HC11
          replace H := Option.bind_eq_some_iff.mp H
          obtain ⟨t149, A140, H⟩ := H
          replace H : (if t149 = true then ((rangeproof_hash.f (⟨#[99]⟩ : ByteArray) (([(rd_T25 l2 x24_2).f0, (rd_T25 l2 x24_2).f1.f0, (rd_T25 l2 x24_2).f1.f1] : List Int))).bind fun t153 => (rangeproof_Verify.j2 k2 a0 x7_2 x24_2 l2 (l2.length : Int) x24_2 ((Int.tmod (wrap64 (((rd_T25 l2 x24_2).f2.f0) + ((rd_T25 l2 x24_2).f2.f1))) 1073741789) != t153) ((rd_T25 l2 x24_2).f0) ((rd_T25 l2 x24_2).f1.f0) ((rd_T25 l2 x24_2).f1.f1) ((rd_T25 l2 x24_2).f2.f0) ((rd_T25 l2 x24_2).f2.f1) ((rd_T25 l2 x24_2).f3.f0) ((rd_T25 l2 x24_2).f3.f1))) else (rangeproof_Verify.j2 k2 a0 x7_2 x24_2 l2 (l2.length : Int) x24_2 true ((rd_T25 l2 x24_2).f0) ((rd_T25 l2 x24_2).f1.f0) ((rd_T25 l2 x24_2).f1.f1) ((rd_T25 l2 x24_2).f2.f0) ((rd_T25 l2 x24_2).f2.f1) ((rd_T25 l2 x24_2).f3.f0) ((rd_T25 l2 x24_2).f3.f1))) = some r := H
          have A14 := Aside0.mk A140
          clear A140
          by_cases c15 : t149 = true
          ·subst c15
           have H1 : ((rangeproof_hash.f (⟨#[99]⟩ : ByteArray) (([(rd_T25 l2 x24_2).f0, (rd_T25 l2 x24_2).f1.f0, (rd_T25 l2 x24_2).f1.f1] : List Int))).bind fun t153 => (rangeproof_Verify.j2 k2 a0 x7_2 x24_2 l2 (l2.length : Int) x24_2 ((Int.tmod (wrap64 (((rd_T25 l2 x24_2).f2.f0) + ((rd_T25 l2 x24_2).f2.f1))) 1073741789) != t153) ((rd_T25 l2 x24_2).f0) ((rd_T25 l2 x24_2).f1.f0) ((rd_T25 l2 x24_2).f1.f1) ((rd_T25 l2 x24_2).f2.f0) ((rd_T25 l2 x24_2).f2.f1) ((rd_T25 l2 x24_2).f3.f0) ((rd_T25 l2 x24_2).f3.f1))) = some r := by rw [if_pos rfl] at H; exact H
           clear H
           have H := H1
           clear H1
           obtain ⟨y150, hy150⟩ : ∃ y_ : List Int, y_ = (([(rd_T25 l2 x24_2).f0, (rd_T25 l2 x24_2).f1.f0, (rd_T25 l2 x24_2).f1.f1] : List Int)) := ⟨_, rfl⟩
           replace H : ((rangeproof_hash.f (⟨#[99]⟩ : ByteArray) y150).bind fun t153 => (rangeproof_Verify.j2 k2 a0 x7_2 x24_2 l2 (l2.length : Int) x24_2 ((Int.tmod (wrap64 (((rd_T25 l2 x24_2).f2.f0) + ((rd_T25 l2 x24_2).f2.f1))) 1073741789) != t153) ((rd_T25 l2 x24_2).f0) ((rd_T25 l2 x24_2).f1.f0) ((rd_T25 l2 x24_2).f1.f1) ((rd_T25 l2 x24_2).f2.f0) ((rd_T25 l2 x24_2).f2.f1) ((rd_T25 l2 x24_2).f3.f0) ((rd_T25 l2 x24_2).f3.f1))) = some r := by first | (rw [hy150]; with_reducible exact H) | (have H2_ := (Option.bind_some _ _).symm.trans H; rw [hy150]; with_reducible exact H2_) | (have H2_ := (Option.bind_some _ _).symm.trans H; with_reducible exact H2_) | with_reducible exact H | (rw [hy150]; exact H) | exact H
           have Ny150 := Aside0.mk hy150
           clear hy150
           replace H := Option.bind_eq_some_iff.mp H
           obtain ⟨t153, A160, H⟩ := H
           replace H : (rangeproof_Verify.j2 k2 a0 x7_2 x24_2 l2 (l2.length : Int) x24_2 ((Int.tmod (wrap64 (((rd_T25 l2 x24_2).f2.f0) + ((rd_T25 l2 x24_2).f2.f1))) 1073741789) != t153) ((rd_T25 l2 x24_2).f0) ((rd_T25 l2 x24_2).f1.f0) ((rd_T25 l2 x24_2).f1.f1) ((rd_T25 l2 x24_2).f2.f0) ((rd_T25 l2 x24_2).f2.f1) ((rd_T25 l2 x24_2).f3.f0) ((rd_T25 l2 x24_2).f3.f1)) = some r := H
           have A16 := Aside0.mk A160
           clear A160
           have H' := Aside0.mk H
           clear H
           try go_wp2
           have n0_ : Aside0 ((((((((w12.setCell ⟨gb148, 0, none⟩ (.int .i64 ((rd_T25 l2 x24_2).f0))).setCell ⟨gb148, 1, none⟩ (.int .i64 ((rd_T25 l2 x24_2).f1.f0))).setCell ⟨gb148, 2, none⟩ (.int .i64 ((rd_T25 l2 x24_2).f1.f1))).setCell ⟨gb148, 3, none⟩ (.int .i64 ((rd_T25 l2 x24_2).f2.f0))).setCell ⟨gb148, 4, none⟩ (.int .i64 ((rd_T25 l2 x24_2).f2.f1))).setCell ⟨gb148, 5, none⟩ (.int .i64 ((rd_T25 l2 x24_2).f3.f0))).setCell ⟨gb148, 6, none⟩ (.int .i64 ((rd_T25 l2 x24_2).f3.f1))).heap[gb148]? = some (.cells #[.int .i64 ((rd_T25 l2 x24_2).f0), .int .i64 ((rd_T25 l2 x24_2).f1.f0), .int .i64 ((rd_T25 l2 x24_2).f1.f1), .int .i64 ((rd_T25 l2 x24_2).f2.f0), .int .i64 ((rd_T25 l2 x24_2).f2.f1), .int .i64 ((rd_T25 l2 x24_2).f3.f0), .int .i64 ((rd_T25 l2 x24_2).f3.f1)] 25 (0, 0))) := ⟨by (with_reducible repeat (first | refine blk_drewN ?_ _ | refine blk_drew ?_ | refine blk_alloc ?_ _)); refine blk_put (cs := #[.int .i64 ((rd_T25 l2 x24_2).f0), .int .i64 ((rd_T25 l2 x24_2).f1.f0), .int .i64 ((rd_T25 l2 x24_2).f1.f1), .int .i64 ((rd_T25 l2 x24_2).f2.f0), .int .i64 ((rd_T25 l2 x24_2).f2.f1), .int .i64 ((rd_T25 l2 x24_2).f3.f0), .int .i64 0]) ?_ 6 _ rfl; (with_reducible repeat (first | refine blk_drewN ?_ _ | refine blk_drew ?_ | refine blk_alloc ?_ _)); refine blk_put (cs := #[.int .i64 ((rd_T25 l2 x24_2).f0), .int .i64 ((rd_T25 l2 x24_2).f1.f0), .int .i64 ((rd_T25 l2 x24_2).f1.f1), .int .i64 ((rd_T25 l2 x24_2).f2.f0), .int .i64 ((rd_T25 l2 x24_2).f2.f1), .int .i64 0, .int .i64 0]) ?_ 5 _ rfl; (with_reducible repeat (first | refine blk_drewN ?_ _ | refine blk_drew ?_ | refine blk_alloc ?_ _)); refine blk_put (cs := #[.int .i64 ((rd_T25 l2 x24_2).f0), .int .i64 ((rd_T25 l2 x24_2).f1.f0), .int .i64 ((rd_T25 l2 x24_2).f1.f1), .int .i64 ((rd_T25 l2 x24_2).f2.f0), .int .i64 0, .int .i64 0, .int .i64 0]) ?_ 4 _ rfl; (with_reducible repeat (first | refine blk_drewN ?_ _ | refine blk_drew ?_ | refine blk_alloc ?_ _)); refine blk_put (cs := #[.int .i64 ((rd_T25 l2 x24_2).f0), .int .i64 ((rd_T25 l2 x24_2).f1.f0), .int .i64 ((rd_T25 l2 x24_2).f1.f1), .int .i64 0, .int .i64 0, .int .i64 0, .int .i64 0]) ?_ 3 _ rfl; (with_reducible repeat (first | refine blk_drewN ?_ _ | refine blk_drew ?_ | refine blk_alloc ?_ _)); refine blk_put (cs := #[.int .i64 ((rd_T25 l2 x24_2).f0), .int .i64 ((rd_T25 l2 x24_2).f1.f0), .int .i64 0, .int .i64 0, .int .i64 0, .int .i64 0, .int .i64 0]) ?_ 2 _ rfl; (with_reducible repeat (first | refine blk_drewN ?_ _ | refine blk_drew ?_ | refine blk_alloc ?_ _)); refine blk_put (cs := #[.int .i64 ((rd_T25 l2 x24_2).f0), .int .i64 0, .int .i64 0, .int .i64 0, .int .i64 0, .int .i64 0, .int .i64 0]) ?_ 1 _ rfl; (with_reducible repeat (first | refine blk_drewN ?_ _ | refine blk_drew ?_ | refine blk_alloc ?_ _)); refine blk_put (cs := #[.int .i64 0, .int .i64 0, .int .i64 0, .int .i64 0, .int .i64 0, .int .i64 0, .int .i64 0]) ?_ 0 _ rfl; (with_reducible repeat (first | refine blk_drewN ?_ _ | refine blk_drew ?_ | refine blk_alloc ?_ _)); exact BK148.out⟩
           have n1_ : Aside0 (Below w.heap.size w (((((((w12.setCell ⟨gb148, 0, none⟩ (.int .i64 ((rd_T25 l2 x24_2).f0))).setCell ⟨gb148, 1, none⟩ (.int .i64 ((rd_T25 l2 x24_2).f1.f0))).setCell ⟨gb148, 2, none⟩ (.int .i64 ((rd_T25 l2 x24_2).f1.f1))).setCell ⟨gb148, 3, none⟩ (.int .i64 ((rd_T25 l2 x24_2).f2.f0))).setCell ⟨gb148, 4, none⟩ (.int .i64 ((rd_T25 l2 x24_2).f2.f1))).setCell ⟨gb148, 5, none⟩ (.int .i64 ((rd_T25 l2 x24_2).f3.f0))).setCell ⟨gb148, 6, none⟩ (.int .i64 ((rd_T25 l2 x24_2).f3.f1)))) := ⟨by repeat (first | (with_reducible first | exact HB.out | apply below_alloc | apply pw_below_drewN | apply below_drew1 | refine below_set ?_ GE148.out) | exact HB.out)⟩
           (try clear BK148)
           (try clear HB)
           generalize (((((((w12.setCell ⟨gb148, 0, none⟩ (.int .i64 ((rd_T25 l2 x24_2).f0))).setCell ⟨gb148, 1, none⟩ (.int .i64 ((rd_T25 l2 x24_2).f1.f0))).setCell ⟨gb148, 2, none⟩ (.int .i64 ((rd_T25 l2 x24_2).f1.f1))).setCell ⟨gb148, 3, none⟩ (.int .i64 ((rd_T25 l2 x24_2).f2.f0))).setCell ⟨gb148, 4, none⟩ (.int .i64 ((rd_T25 l2 x24_2).f2.f1))).setCell ⟨gb148, 5, none⟩ (.int .i64 ((rd_T25 l2 x24_2).f3.f0))).setCell ⟨gb148, 6, none⟩ (.int .i64 ((rd_T25 l2 x24_2).f3.f1))) = w17 at n0_ n1_ ⊢
           have BK148 := n0_
           have HB := n1_
           clear n0_ n1_
           have n0_ := Aside0.mk (blk_drew BK148.out)
           have n1_ := Aside0.mk (below_drew1 HB.out)
           clear BK148
           clear HB
           have BK148 := n0_
           have HB := n1_
           clear n0_ n1_
           refine start_ (n := 24) (S := fun w' => w'.cell? ⟨gb148, 0, none⟩ = some (.int .i64 ((rd_T25 l2 x24_2).f0)) ∧ w'.cell? ⟨gb148, 1, none⟩ = some (.int .i64 ((rd_T25 l2 x24_2).f1.f0)) ∧ w'.cell? ⟨gb148, 2, none⟩ = some (.int .i64 ((rd_T25 l2 x24_2).f1.f1)) ∧ w'.cell? ⟨gb148, 3, none⟩ = some (.int .i64 ((rd_T25 l2 x24_2).f2.f0)) ∧ w'.cell? ⟨gb148, 4, none⟩ = some (.int .i64 ((rd_T25 l2 x24_2).f2.f1)) ∧ w'.cell? ⟨gb148, 5, none⟩ = some (.int .i64 ((rd_T25 l2 x24_2).f3.f0)) ∧ w'.cell? ⟨gb148, 6, none⟩ = some (.int .i64 ((rd_T25 l2 x24_2).f3.f1))) (ds := []) #[false, false, false, false, false, false, false, false, false, false, false, false, false, false, false, false, false, false, false, false, false, false, false, false] (by kernel_rfl) rfl rfl ⟨(blk_cell BK148.out 0).trans rfl, (blk_cell BK148.out 1).trans rfl, (blk_cell BK148.out 2).trans rfl, (blk_cell BK148.out 3).trans rfl, (blk_cell BK148.out 4).trans rfl, (blk_cell BK148.out 5).trans rfl, (blk_cell BK148.out 6).trans rfl⟩ (fun hHeld => ?_); refine with_tabW rangeproof_Verify.tab7 rangeproof_Verify.bits7 (fun HT_ HW_ => ?_)
           generalize w17.drew = w18 at BK148 HB hHeld ⊢
           refine take_ (i := 0) (N := some 29) (v := ?_) (a' := ?_) #[true, false, false, false, false, false, false, false, false, false, false, false, false, false, false, false, false, false, false, false, false, false, false, false] rfl rfl (take_ofW HT_.out HW_.out (by kernel_rfl)) (fun _ _ _ h => h) (Or.inl ⟨by rfl, ?_⟩) hHeld ?_ ?_
           rotate_left
           ·rintro w' ⟨s0, s1, s2, s3, s4, s5, s6⟩
            go_simp
            with_reducible rfl
           rotate_left
           ·simp only [Act.put, List.setIfInBounds_toArray, List.set_cons_zero, List.set_cons_succ, i64_w, i32_w]
            rfl
           refine one_ (i := 1) (N := some 30) #[true, true, false, false, false, false, false, false, false, false, false, false, false, false, false, false, false, false, false, false, false, false, false, false] rfl rfl (one_of HT_.out (by kernel_rfl)) (by decide) (fun K hK => ?_)
           refine goes_ Tryd.func30 (by kernel_rfl) rfl #[.agg #[.int .i64 ((rd_T25 l2 x24_2).f0), .int .i64 ((rd_T25 l2 x24_2).f1.f0), .int .i64 ((rd_T25 l2 x24_2).f1.f1), .int .i64 ((rd_T25 l2 x24_2).f2.f0), .int .i64 ((rd_T25 l2 x24_2).f2.f1), .int .i64 ((rd_T25 l2 x24_2).f3.f0), .int .i64 ((rd_T25 l2 x24_2).f3.f1)]] (by rfl) rfl rfl (by (try simp only [List.map_toArray, List.map_cons, List.map_nil]); first | done | rfl | (simp only [List.length_drop, List.length_take]; rfl)) ?_
           with_reducible refine (rangeproof_isRight.calls ((rd_T25 l2 x24_2).f0) ((rd_T25 l2 x24_2).f1.f0) ((rd_T25 l2 x24_2).f1.f1) ((rd_T25 l2 x24_2).f2.f0) ((rd_T25 l2 x24_2).f2.f1) ((rd_T25 l2 x24_2).f3.f0) ((rd_T25 l2 x24_2).f3.f1) true _ A14.out).mono ?_
           rintro e w19 ⟨rfl, hb⟩
           refine ⟨_, rfl, ?_⟩
           have n0_ := Aside0.mk (blk_below (g := gb148) (o := .cells #[.int .i64 ((rd_T25 l2 x24_2).f0), .int .i64 ((rd_T25 l2 x24_2).f1.f0), .int .i64 ((rd_T25 l2 x24_2).f1.f1), .int .i64 ((rd_T25 l2 x24_2).f2.f0), .int .i64 ((rd_T25 l2 x24_2).f2.f1), .int .i64 ((rd_T25 l2 x24_2).f3.f0), .int .i64 ((rd_T25 l2 x24_2).f3.f1)] 25 (0, 0)) (by (with_reducible repeat (first | refine blk_drewN ?_ _ | refine blk_drew ?_ | refine blk_alloc ?_ _)); exact BK148.out) hb)
           have n1_ := Aside0.mk (below_step (by repeat (first | (with_reducible first | exact HB.out | apply below_alloc | apply pw_below_drewN | apply below_drew1 | refine below_set ?_ GE148.out) | exact HB.out)) hb)
           clear BK148
           clear HB
           have BK148 := n0_
           have HB := n1_
           clear n0_ n1_
           (try clear hb)
           (try clear hb2)
           (try clear hk)
           (try clear hi)
           refine hK.out _ _ ⟨(blk_cell BK148.out 0).trans rfl, (blk_cell BK148.out 1).trans rfl, (blk_cell BK148.out 2).trans rfl, (blk_cell BK148.out 3).trans rfl, (blk_cell BK148.out 4).trans rfl, (blk_cell BK148.out 5).trans rfl, (blk_cell BK148.out 6).trans rfl⟩ (fun hHeld => ?_)
           clear hK K
           refine norm_ (a' := ?_) ?_ ?_
           rotate_left
           ·show Act.put _ (some 30) _ = _
            simp only [Act.put, List.setIfInBounds_toArray, List.set_cons_zero, List.set_cons_succ, i64_w, i32_w]
            rfl
           refine pure_ (i := 2) (N := some 31) (v := ?_) (a' := ?_) #[true, true, true, false, false, false, false, false, false, false, false, false, false, false, false, false, false, false, false, false, false, false, false, false] rfl rfl (any_of HT_.out (by kernel_rfl)) (fun _ _ _ h => h) (Or.inl ⟨by rfl, ?_⟩) ?_ ?_
           rotate_left
           ·intro w'
            go_simp
            with_reducible rfl
           rotate_left
           ·simp only [Act.put, List.setIfInBounds_toArray, List.set_cons_zero, List.set_cons_succ, i64_w, i32_w]
            rfl
           refine pure_ (i := 3) (N := some 32) (v := ?_) (a' := ?_) #[true, true, true, true, false, false, false, false, false, false, false, false, false, false, false, false, false, false, false, false, false, false, false, false] rfl rfl (any_of HT_.out (by kernel_rfl)) (fun _ _ _ h => h) (Or.inl ⟨by rfl, ?_⟩) ?_ ?_
           rotate_left
           ·intro w'
            go_simp
            with_reducible rfl
           rotate_left
           ·simp only [Act.put, List.setIfInBounds_toArray, List.set_cons_zero, List.set_cons_succ, i64_w, i32_w]
            rfl
           refine pure_ (i := 4) (N := some 33) (v := ?_) (a' := ?_) #[true, true, true, true, true, false, false, false, false, false, false, false, false, false, false, false, false, false, false, false, false, false, false, false] rfl rfl (any_of HT_.out (by kernel_rfl)) (fun _ _ _ h => h) (Or.inl ⟨by rfl, ?_⟩) ?_ ?_
           rotate_left
           ·intro w'
            go_simp
            with_reducible rfl
           rotate_left
           ·simp only [Act.put, List.setIfInBounds_toArray, List.set_cons_zero, List.set_cons_succ, i64_w, i32_w]
            rfl
           refine pure_ (i := 5) (N := some 34) (v := ?_) (a' := ?_) #[true, true, true, true, true, true, false, false, false, false, false, false, false, false, false, false, false, false, false, false, false, false, false, false] rfl rfl (any_of HT_.out (by kernel_rfl)) (fun _ _ _ h => h) (Or.inl ⟨by rfl, ?_⟩) ?_ ?_
           rotate_left
           ·intro w'
            go_simp
            with_reducible rfl
           rotate_left
           ·simp only [Act.put, List.setIfInBounds_toArray, List.set_cons_zero, List.set_cons_succ, i64_w, i32_w]
            rfl
           refine pure_ (i := 7) (N := some 36) (v := ?_) (a' := ?_) #[true, true, true, true, true, true, false, true, false, false, false, false, false, false, false, false, false, false, false, false, false, false, false, false] rfl rfl (any_of HT_.out (by kernel_rfl)) (fun _ _ _ h => h) (Or.inl ⟨by rfl, ?_⟩) ?_ ?_
           rotate_left
           ·intro w'
            go_simp
            with_reducible rfl
           rotate_left
           ·simp only [Act.put, List.setIfInBounds_toArray, List.set_cons_zero, List.set_cons_succ, i64_w, i32_w]
            rfl
           refine pure_ (i := 8) (N := some 37) (v := ?_) (a' := ?_) #[true, true, true, true, true, true, false, true, true, false, false, false, false, false, false, false, false, false, false, false, false, false, false, false] rfl rfl (any_of HT_.out (by kernel_rfl)) (fun _ _ _ h => h) (Or.inl ⟨by rfl, ?_⟩) ?_ ?_
           rotate_left
           ·intro w'
            go_simp
            with_reducible rfl
           rotate_left
           ·simp only [Act.put, List.setIfInBounds_toArray, List.set_cons_zero, List.set_cons_succ, i64_w, i32_w]
            rfl
           refine pure_ (i := 12) (N := some 41) (v := ?_) (a' := ?_) #[true, true, true, true, true, true, false, true, true, false, false, false, true, false, false, false, false, false, false, false, false, false, false, false] rfl rfl (any_of HT_.out (by kernel_rfl)) (fun _ _ _ h => h) (Or.inl ⟨by rfl, ?_⟩) ?_ ?_
           rotate_left
           ·intro w'
            go_simp
            with_reducible rfl
           rotate_left
           ·simp only [Act.put, List.setIfInBounds_toArray, List.set_cons_zero, List.set_cons_succ, i64_w, i32_w]
            rfl
           refine pure_ (i := 14) (N := some 43) (v := ?_) (a' := ?_) #[true, true, true, true, true, true, false, true, true, false, false, false, true, false, true, false, false, false, false, false, false, false, false, false] rfl rfl (any_of HT_.out (by kernel_rfl)) (fun _ _ _ h => h) (Or.inl ⟨by rfl, ?_⟩) ?_ ?_
           rotate_left
           ·intro w'
            go_simp
            with_reducible rfl
           rotate_left
           ·simp only [Act.put, List.setIfInBounds_toArray, List.set_cons_zero, List.set_cons_succ, i64_w, i32_w]
            rfl
           refine pure_ (i := 15) (N := some 44) (v := ?_) (a' := ?_) #[true, true, true, true, true, true, false, true, true, false, false, false, true, false, true, true, false, false, false, false, false, false, false, false] rfl rfl (any_of HT_.out (by kernel_rfl)) (fun _ _ _ h => h) (Or.inl ⟨by rfl, ?_⟩) ?_ ?_
           rotate_left
           ·intro w'
            go_simp
            with_reducible rfl
           rotate_left
           ·simp only [Act.put, List.setIfInBounds_toArray, List.set_cons_zero, List.set_cons_succ, i64_w, i32_w]
            rfl
           refine pure_ (i := 17) (N := some 46) (v := ?_) (a' := ?_) #[true, true, true, true, true, true, false, true, true, false, false, false, true, false, true, true, false, true, false, false, false, false, false, false] rfl rfl (any_of HT_.out (by kernel_rfl)) (fun _ _ _ h => h) (Or.inl ⟨by rfl, ?_⟩) ?_ ?_
           rotate_left
           ·intro w'
            go_simp
            with_reducible rfl
           rotate_left
           ·simp only [Act.put, List.setIfInBounds_toArray, List.set_cons_zero, List.set_cons_succ, i64_w, i32_w]
            rfl
           refine pure_ (i := 18) (N := some 47) (v := ?_) (a' := ?_) #[true, true, true, true, true, true, false, true, true, false, false, false, true, false, true, true, false, true, true, false, false, false, false, false] rfl rfl (any_of HT_.out (by kernel_rfl)) (fun _ _ _ h => h) (Or.inl ⟨by rfl, ?_⟩) ?_ ?_
           rotate_left
           ·intro w'
            go_simp
            with_reducible rfl
           rotate_left
           ·simp only [Act.put, List.setIfInBounds_toArray, List.set_cons_zero, List.set_cons_succ, i64_w, i32_w]
            rfl
           refine take_ (i := 6) (N := some 35) (v := ?_) (a' := ?_) #[true, true, true, true, true, true, true, true, true, false, false, false, true, false, true, true, false, true, true, false, false, false, false, false] rfl rfl (take_ofW HT_.out HW_.out (by kernel_rfl)) (fun _ _ _ h => h) (Or.inl ⟨by rfl, ?_⟩) hHeld ?_ ?_
           rotate_left
           ·rintro w' ⟨s0, s1, s2, s3, s4, s5, s6⟩
            go_simp
            with_reducible rfl
           rotate_left
           ·simp only [Act.put, List.setIfInBounds_toArray, List.set_cons_zero, List.set_cons_succ, i64_w, i32_w]
            rfl
           refine take_ (i := 9) (N := some 38) (v := ?_) (a' := ?_) #[true, true, true, true, true, true, true, true, true, true, false, false, true, false, true, true, false, true, true, false, false, false, false, false] rfl rfl (take_ofW HT_.out HW_.out (by kernel_rfl)) (fun _ _ _ h => h) (Or.inl ⟨by rfl, ?_⟩) hHeld ?_ ?_
           rotate_left
           ·rintro w' ⟨s0, s1, s2, s3, s4, s5, s6⟩
            go_simp
            with_reducible rfl
           rotate_left
           ·simp only [Act.put, List.setIfInBounds_toArray, List.set_cons_zero, List.set_cons_succ, i64_w, i32_w]
            rfl
           refine pure_ (i := 10) (N := some 39) (v := ?_) (a' := ?_) #[true, true, true, true, true, true, true, true, true, true, true, false, true, false, true, true, false, true, true, false, false, false, false, false] rfl rfl (any_of HT_.out (by kernel_rfl)) (fun _ _ _ h => h) (Or.inl ⟨by rfl, ?_⟩) ?_ ?_
           rotate_left
           ·intro w'
            go_simp
            with_reducible rfl
           rotate_left
           ·simp only [Act.put, List.setIfInBounds_toArray, List.set_cons_zero, List.set_cons_succ, i64_w, i32_w]
            rfl
           refine pure_ (i := 11) (N := some 40) (v := ?_) (a' := ?_) #[true, true, true, true, true, true, true, true, true, true, true, true, true, false, true, true, false, true, true, false, false, false, false, false] rfl rfl (any_of HT_.out (by kernel_rfl)) (fun _ _ _ h => h) (Or.inl ⟨by rfl, ?_⟩) ?_ ?_
           rotate_left
           ·intro w'
            go_simp
            with_reducible rfl
           rotate_left
           ·simp only [Act.put, List.setIfInBounds_toArray, List.set_cons_zero, List.set_cons_succ, i64_w, i32_w]
            rfl
           refine take_ (i := 13) (N := some 42) (v := ?_) (a' := ?_) #[true, true, true, true, true, true, true, true, true, true, true, true, true, true, true, true, false, true, true, false, false, false, false, false] rfl rfl (take_ofW HT_.out HW_.out (by kernel_rfl)) (fun _ _ _ h => h) (Or.inl ⟨by rfl, ?_⟩) hHeld ?_ ?_
           rotate_left
           ·rintro w' ⟨s0, s1, s2, s3, s4, s5, s6⟩
            go_simp
            with_reducible rfl
           rotate_left
           ·simp only [Act.put, List.setIfInBounds_toArray, List.set_cons_zero, List.set_cons_succ, i64_w, i32_w]
            rfl
           refine take_ (i := 16) (N := some 45) (v := ?_) (a' := ?_) #[true, true, true, true, true, true, true, true, true, true, true, true, true, true, true, true, true, true, true, false, false, false, false, false] rfl rfl (take_ofW HT_.out HW_.out (by kernel_rfl)) (fun _ _ _ h => h) (Or.inl ⟨by rfl, ?_⟩) hHeld ?_ ?_
           rotate_left
           ·rintro w' ⟨s0, s1, s2, s3, s4, s5, s6⟩
            go_simp
            with_reducible rfl
           rotate_left
           ·simp only [Act.put, List.setIfInBounds_toArray, List.set_cons_zero, List.set_cons_succ, i64_w, i32_w]
            rfl
           refine take_ (i := 19) (N := some 48) (v := ?_) (a' := ?_) #[true, true, true, true, true, true, true, true, true, true, true, true, true, true, true, true, true, true, true, true, false, false, false, false] rfl rfl (take_ofW HT_.out HW_.out (by kernel_rfl)) (fun _ _ _ h => h) (Or.inl ⟨by rfl, ?_⟩) hHeld ?_ ?_
           rotate_left
           ·rintro w' ⟨s0, s1, s2, s3, s4, s5, s6⟩
            go_simp
            with_reducible rfl
           rotate_left
           ·simp only [Act.put, List.setIfInBounds_toArray, List.set_cons_zero, List.set_cons_succ, i64_w, i32_w]
            rfl
           refine one_ (i := 20) (N := some 49) #[true, true, true, true, true, true, true, true, true, true, true, true, true, true, true, true, true, true, true, true, true, false, false, false] rfl rfl (one_of HT_.out (by kernel_rfl)) (by decide) (fun K hK => ?_)
           refine Kd.R_lit_step (Kd.int .i64) _ 3 ?hg (N := 49) ?hd (xs := ([(rd_T25 l2 x24_2).f0, (rd_T25 l2 x24_2).f1.f0, (rd_T25 l2 x24_2).f1.f1] : List Int)) (inner := [.int .i64 ((rd_T25 l2 x24_2).f0), .int .i64 ((rd_T25 l2 x24_2).f1.f0), .int .i64 ((rd_T25 l2 x24_2).f1.f1)]) (ok := fun _ => True) (okp := fun _ => True) ?hr ?hp (fun _ hk => hk) trivial (Below.refl _ _) (Nat.le_refl _) (by simp) ?_; (case hd => rfl); (case hg => rfl); (case hr => first | (go_simp; done) | (go_simp; rfl)); (case hp => exact (Reps.one (show Kd.M (Kd.int .i64) _ _ _ ((rd_T25 l2 x24_2).f0) [.int .i64 ((rd_T25 l2 x24_2).f0)] from rfl) (Reps.one (show Kd.M (Kd.int .i64) _ _ _ ((rd_T25 l2 x24_2).f1.f0) [.int .i64 ((rd_T25 l2 x24_2).f1.f0)] from rfl) (Reps.one (show Kd.M (Kd.int .i64) _ _ _ ((rd_T25 l2 x24_2).f1.f1) [.int .i64 ((rd_T25 l2 x24_2).f1.f1)] from rfl) (Reps.none _ _)))))
           intro v151 w20 ho21 hb hg_ hnew_
           clear hg_ hnew_
           (first | rw [← Ny150.out] at ho21 | (simp only [Int.reduceToNat] at ho21; rw [← Ny150.out] at ho21))
           have n0_ := Aside0.mk (Kd.R_lower ho21 (below_size (by repeat (first | (with_reducible first | exact HB.out | apply below_alloc | apply pw_below_drewN | apply below_drew1 | refine below_set ?_ GE148.out) | exact HB.out))))
           have n1_ := Aside0.mk (blk_below (g := gb148) (o := .cells #[.int .i64 ((rd_T25 l2 x24_2).f0), .int .i64 ((rd_T25 l2 x24_2).f1.f0), .int .i64 ((rd_T25 l2 x24_2).f1.f1), .int .i64 ((rd_T25 l2 x24_2).f2.f0), .int .i64 ((rd_T25 l2 x24_2).f2.f1), .int .i64 ((rd_T25 l2 x24_2).f3.f0), .int .i64 ((rd_T25 l2 x24_2).f3.f1)] 25 (0, 0)) (by (with_reducible repeat (first | refine blk_drewN ?_ _ | refine blk_drew ?_ | refine blk_alloc ?_ _)); exact BK148.out) hb)
           have n2_ := Aside0.mk (below_step (by repeat (first | (with_reducible first | exact HB.out | apply below_alloc | apply pw_below_drewN | apply below_drew1 | refine below_set ?_ GE148.out) | exact HB.out)) hb)
           clear BK148
           clear HB
           have HO152 := n0_
           have BK148 := n1_
           have HB := n2_
           clear n0_ n1_ n2_
           clear hb ho21
           obtain ⟨Ao22, co22, eo22⟩ := Kd.R_slice HO152.out
           (first | subst eo22 | (injection eo22 with f1_ f2_ f3_; have f4_ := f1_.symm; have f5_ := f3_.symm; clear f1_ f2_ f3_; subst f4_; subst f5_))
           refine hK.out _ _ ⟨(blk_cell BK148.out 0).trans rfl, (blk_cell BK148.out 1).trans rfl, (blk_cell BK148.out 2).trans rfl, (blk_cell BK148.out 3).trans rfl, (blk_cell BK148.out 4).trans rfl, (blk_cell BK148.out 5).trans rfl, (blk_cell BK148.out 6).trans rfl⟩ (fun hHeld => ?_)
           clear hK K
           refine norm_ (a' := ?_) ?_ ?_
           rotate_left
           ·show Act.put _ (some 49) _ = _
            simp only [Act.put, List.setIfInBounds_toArray, List.set_cons_zero, List.set_cons_succ, i64_w, i32_w]
            rfl
           refine one_ (i := 21) (N := some 50) #[true, true, true, true, true, true, true, true, true, true, true, true, true, true, true, true, true, true, true, true, true, true, false, false] rfl rfl (one_of HT_.out (by kernel_rfl)) (by decide) (fun K hK => ?_)
           refine goes_ Tryd.func24 (by kernel_rfl) rfl #[.string (⟨#[99]⟩ : ByteArray), .slice Ao22 y150.length co22] (by rfl) rfl rfl (by (try simp only [List.map_toArray, List.map_cons, List.map_nil]); first | done | rfl | (simp only [List.length_drop, List.length_take]; rfl)) ?_
           with_reducible refine (rangeproof_hash.calls (⟨#[99]⟩ : ByteArray) _ _ y150 t153 _ ?side1 ?side2 A16.out (TabTen.below hTTen.out (by repeat (first | exact HB.out | exact Below.refl _ _ | apply below_alloc | apply pw_below_drewN | apply below_drew1 | apply below_drew | refine below_set ?_ GE148.out)))).mono ?_
           (case side1 => repeat (first | exact (Kd.R_reads' HO152.out).2.2 | (with_reducible refine Kd.C_alloc ?_ _) | (with_reducible refine Kd.C_drewN ?_ _) | (with_reducible refine Kd.C_drew ?_)))
           (case side2 => exact (Kd.R_reads' HO152.out).2.1)
           rintro e w23 ⟨rfl, hb⟩
           refine ⟨_, rfl, ?_⟩
           have n0_ := Aside0.mk (Kd.R_below (by (with_reducible repeat (first | apply Kd.R_alloc | apply Kd.R_drewN | apply Kd.R_drew)); exact HO152.out) hb)
           have n1_ := Aside0.mk (blk_below (g := gb148) (o := .cells #[.int .i64 ((rd_T25 l2 x24_2).f0), .int .i64 ((rd_T25 l2 x24_2).f1.f0), .int .i64 ((rd_T25 l2 x24_2).f1.f1), .int .i64 ((rd_T25 l2 x24_2).f2.f0), .int .i64 ((rd_T25 l2 x24_2).f2.f1), .int .i64 ((rd_T25 l2 x24_2).f3.f0), .int .i64 ((rd_T25 l2 x24_2).f3.f1)] 25 (0, 0)) (by (with_reducible repeat (first | refine blk_drewN ?_ _ | refine blk_drew ?_ | refine blk_alloc ?_ _)); exact BK148.out) hb)
           have n2_ := Aside0.mk (below_step (by repeat (first | (with_reducible first | exact HB.out | apply below_alloc | apply pw_below_drewN | apply below_drew1 | refine below_set ?_ GE148.out) | exact HB.out)) hb)
           clear HO152
           clear BK148
           clear HB
           have HO152 := n0_
           have BK148 := n1_
           have HB := n2_
           clear n0_ n1_ n2_
           (try clear hb)
           (try clear hb2)
           (try clear hk)
           (try clear hi)
           refine hK.out _ _ ⟨(blk_cell BK148.out 0).trans rfl, (blk_cell BK148.out 1).trans rfl, (blk_cell BK148.out 2).trans rfl, (blk_cell BK148.out 3).trans rfl, (blk_cell BK148.out 4).trans rfl, (blk_cell BK148.out 5).trans rfl, (blk_cell BK148.out 6).trans rfl⟩ (fun hHeld => ?_)
           clear hK K
           refine norm_ (a' := ?_) ?_ ?_
           rotate_left
           ·show Act.put _ (some 50) _ = _
            simp only [Act.put, List.setIfInBounds_toArray, List.set_cons_zero, List.set_cons_succ, i64_w, i32_w]
            rfl
           refine pure_ (i := 22) (N := some 51) (v := ?_) (a' := ?_) #[true, true, true, true, true, true, true, true, true, true, true, true, true, true, true, true, true, true, true, true, true, true, true, false] rfl rfl (any_of HT_.out (by kernel_rfl)) (fun _ _ _ h => h) (Or.inl ⟨by rfl, ?_⟩) ?_ ?_
           rotate_left
           ·intro w'
            go_simp
            with_reducible rfl
           rotate_left
           ·simp only [Act.put, List.setIfInBounds_toArray, List.set_cons_zero, List.set_cons_succ, i64_w, i32_w]
            rfl
           refine pure_ (i := 23) (N := some 52) (v := ?_) (a' := ?_) #[true, true, true, true, true, true, true, true, true, true, true, true, true, true, true, true, true, true, true, true, true, true, true, true] rfl rfl (any_of HT_.out (by kernel_rfl)) (fun _ _ _ h => h) (Or.inl ⟨by rfl, ?_⟩) ?_ ?_
           rotate_left
           ·intro w'
            go_simp
            with_reducible rfl
           rotate_left
           ·simp only [Act.put, List.setIfInBounds_toArray, List.set_cons_zero, List.set_cons_succ, i64_w, i32_w]
            rfl
           refine done_ (done_of HT_.out (by kernel_rfl)) ?_
           try go_wp2
           go_meet
           case rel => exact ⟨_, (((Int.tmod (wrap64 (((rd_T25 l2 x24_2).f2.f0) + ((rd_T25 l2 x24_2).f2.f1))) 1073741789) != t153)), (by first | rfl | (simp; done) | (simp [*]; done)), H', ⟨by have := HJ3.out; have := HK2.out; first | omega | exact Nat.le_refl _⟩, ⟨by (with_reducible repeat (first | refine blk_drewN ?_ _ | refine blk_drew ?_ | refine blk_alloc ?_ _)); exact BK148.out⟩, ⟨by repeat (first | (with_reducible first | exact HB.out | apply below_alloc | apply pw_below_drewN | apply below_drew1 | refine below_set ?_ GE148.out) | exact HB.out)⟩⟩
          ·replace c15 := Bool.eq_false_iff.mpr c15
           subst c15
           have H1 : (rangeproof_Verify.j2 k2 a0 x7_2 x24_2 l2 (l2.length : Int) x24_2 true ((rd_T25 l2 x24_2).f0) ((rd_T25 l2 x24_2).f1.f0) ((rd_T25 l2 x24_2).f1.f1) ((rd_T25 l2 x24_2).f2.f0) ((rd_T25 l2 x24_2).f2.f1) ((rd_T25 l2 x24_2).f3.f0) ((rd_T25 l2 x24_2).f3.f1)) = some r := by rw [if_neg (show ¬ (false = true) by decide)] at H; exact H
           clear H
           have H := H1
           clear H1
           have H' := Aside0.mk H
           clear H
           try go_wp2
           have n0_ : Aside0 ((((((((w12.setCell ⟨gb148, 0, none⟩ (.int .i64 ((rd_T25 l2 x24_2).f0))).setCell ⟨gb148, 1, none⟩ (.int .i64 ((rd_T25 l2 x24_2).f1.f0))).setCell ⟨gb148, 2, none⟩ (.int .i64 ((rd_T25 l2 x24_2).f1.f1))).setCell ⟨gb148, 3, none⟩ (.int .i64 ((rd_T25 l2 x24_2).f2.f0))).setCell ⟨gb148, 4, none⟩ (.int .i64 ((rd_T25 l2 x24_2).f2.f1))).setCell ⟨gb148, 5, none⟩ (.int .i64 ((rd_T25 l2 x24_2).f3.f0))).setCell ⟨gb148, 6, none⟩ (.int .i64 ((rd_T25 l2 x24_2).f3.f1))).heap[gb148]? = some (.cells #[.int .i64 ((rd_T25 l2 x24_2).f0), .int .i64 ((rd_T25 l2 x24_2).f1.f0), .int .i64 ((rd_T25 l2 x24_2).f1.f1), .int .i64 ((rd_T25 l2 x24_2).f2.f0), .int .i64 ((rd_T25 l2 x24_2).f2.f1), .int .i64 ((rd_T25 l2 x24_2).f3.f0), .int .i64 ((rd_T25 l2 x24_2).f3.f1)] 25 (0, 0))) := ⟨by (with_reducible repeat (first | refine blk_drewN ?_ _ | refine blk_drew ?_ | refine blk_alloc ?_ _)); refine blk_put (cs := #[.int .i64 ((rd_T25 l2 x24_2).f0), .int .i64 ((rd_T25 l2 x24_2).f1.f0), .int .i64 ((rd_T25 l2 x24_2).f1.f1), .int .i64 ((rd_T25 l2 x24_2).f2.f0), .int .i64 ((rd_T25 l2 x24_2).f2.f1), .int .i64 ((rd_T25 l2 x24_2).f3.f0), .int .i64 0]) ?_ 6 _ rfl; (with_reducible repeat (first | refine blk_drewN ?_ _ | refine blk_drew ?_ | refine blk_alloc ?_ _)); refine blk_put (cs := #[.int .i64 ((rd_T25 l2 x24_2).f0), .int .i64 ((rd_T25 l2 x24_2).f1.f0), .int .i64 ((rd_T25 l2 x24_2).f1.f1), .int .i64 ((rd_T25 l2 x24_2).f2.f0), .int .i64 ((rd_T25 l2 x24_2).f2.f1), .int .i64 0, .int .i64 0]) ?_ 5 _ rfl; (with_reducible repeat (first | refine blk_drewN ?_ _ | refine blk_drew ?_ | refine blk_alloc ?_ _)); refine blk_put (cs := #[.int .i64 ((rd_T25 l2 x24_2).f0), .int .i64 ((rd_T25 l2 x24_2).f1.f0), .int .i64 ((rd_T25 l2 x24_2).f1.f1), .int .i64 ((rd_T25 l2 x24_2).f2.f0), .int .i64 0, .int .i64 0, .int .i64 0]) ?_ 4 _ rfl; (with_reducible repeat (first | refine blk_drewN ?_ _ | refine blk_drew ?_ | refine blk_alloc ?_ _)); refine blk_put (cs := #[.int .i64 ((rd_T25 l2 x24_2).f0), .int .i64 ((rd_T25 l2 x24_2).f1.f0), .int .i64 ((rd_T25 l2 x24_2).f1.f1), .int .i64 0, .int .i64 0, .int .i64 0, .int .i64 0]) ?_ 3 _ rfl; (with_reducible repeat (first | refine blk_drewN ?_ _ | refine blk_drew ?_ | refine blk_alloc ?_ _)); refine blk_put (cs := #[.int .i64 ((rd_T25 l2 x24_2).f0), .int .i64 ((rd_T25 l2 x24_2).f1.f0), .int .i64 0, .int .i64 0, .int .i64 0, .int .i64 0, .int .i64 0]) ?_ 2 _ rfl; (with_reducible repeat (first | refine blk_drewN ?_ _ | refine blk_drew ?_ | refine blk_alloc ?_ _)); refine blk_put (cs := #[.int .i64 ((rd_T25 l2 x24_2).f0), .int .i64 0, .int .i64 0, .int .i64 0, .int .i64 0, .int .i64 0, .int .i64 0]) ?_ 1 _ rfl; (with_reducible repeat (first | refine blk_drewN ?_ _ | refine blk_drew ?_ | refine blk_alloc ?_ _)); refine blk_put (cs := #[.int .i64 0, .int .i64 0, .int .i64 0, .int .i64 0, .int .i64 0, .int .i64 0, .int .i64 0]) ?_ 0 _ rfl; (with_reducible repeat (first | refine blk_drewN ?_ _ | refine blk_drew ?_ | refine blk_alloc ?_ _)); exact BK148.out⟩
           have n1_ : Aside0 (Below w.heap.size w (((((((w12.setCell ⟨gb148, 0, none⟩ (.int .i64 ((rd_T25 l2 x24_2).f0))).setCell ⟨gb148, 1, none⟩ (.int .i64 ((rd_T25 l2 x24_2).f1.f0))).setCell ⟨gb148, 2, none⟩ (.int .i64 ((rd_T25 l2 x24_2).f1.f1))).setCell ⟨gb148, 3, none⟩ (.int .i64 ((rd_T25 l2 x24_2).f2.f0))).setCell ⟨gb148, 4, none⟩ (.int .i64 ((rd_T25 l2 x24_2).f2.f1))).setCell ⟨gb148, 5, none⟩ (.int .i64 ((rd_T25 l2 x24_2).f3.f0))).setCell ⟨gb148, 6, none⟩ (.int .i64 ((rd_T25 l2 x24_2).f3.f1)))) := ⟨by repeat (first | (with_reducible first | exact HB.out | apply below_alloc | apply pw_below_drewN | apply below_drew1 | refine below_set ?_ GE148.out) | exact HB.out)⟩
           (try clear BK148)
           (try clear HB)
           generalize (((((((w12.setCell ⟨gb148, 0, none⟩ (.int .i64 ((rd_T25 l2 x24_2).f0))).setCell ⟨gb148, 1, none⟩ (.int .i64 ((rd_T25 l2 x24_2).f1.f0))).setCell ⟨gb148, 2, none⟩ (.int .i64 ((rd_T25 l2 x24_2).f1.f1))).setCell ⟨gb148, 3, none⟩ (.int .i64 ((rd_T25 l2 x24_2).f2.f0))).setCell ⟨gb148, 4, none⟩ (.int .i64 ((rd_T25 l2 x24_2).f2.f1))).setCell ⟨gb148, 5, none⟩ (.int .i64 ((rd_T25 l2 x24_2).f3.f0))).setCell ⟨gb148, 6, none⟩ (.int .i64 ((rd_T25 l2 x24_2).f3.f1))) = w24 at n0_ n1_ ⊢
           have BK148 := n0_
           have HB := n1_
           clear n0_ n1_
           have n0_ := Aside0.mk (blk_drew BK148.out)
           have n1_ := Aside0.mk (below_drew1 HB.out)
           clear BK148
           clear HB
           have BK148 := n0_
           have HB := n1_
           clear n0_ n1_
           refine start_ (n := 24) (S := fun w' => w'.cell? ⟨gb148, 0, none⟩ = some (.int .i64 ((rd_T25 l2 x24_2).f0)) ∧ w'.cell? ⟨gb148, 1, none⟩ = some (.int .i64 ((rd_T25 l2 x24_2).f1.f0)) ∧ w'.cell? ⟨gb148, 2, none⟩ = some (.int .i64 ((rd_T25 l2 x24_2).f1.f1)) ∧ w'.cell? ⟨gb148, 3, none⟩ = some (.int .i64 ((rd_T25 l2 x24_2).f2.f0)) ∧ w'.cell? ⟨gb148, 4, none⟩ = some (.int .i64 ((rd_T25 l2 x24_2).f2.f1)) ∧ w'.cell? ⟨gb148, 5, none⟩ = some (.int .i64 ((rd_T25 l2 x24_2).f3.f0)) ∧ w'.cell? ⟨gb148, 6, none⟩ = some (.int .i64 ((rd_T25 l2 x24_2).f3.f1))) (ds := []) #[false, false, false, false, false, false, false, false, false, false, false, false, false, false, false, false, false, false, false, false, false, false, false, false] (by kernel_rfl) rfl rfl ⟨(blk_cell BK148.out 0).trans rfl, (blk_cell BK148.out 1).trans rfl, (blk_cell BK148.out 2).trans rfl, (blk_cell BK148.out 3).trans rfl, (blk_cell BK148.out 4).trans rfl, (blk_cell BK148.out 5).trans rfl, (blk_cell BK148.out 6).trans rfl⟩ (fun hHeld => ?_); refine with_tabW rangeproof_Verify.tab7 rangeproof_Verify.bits7 (fun HT_ HW_ => ?_)
           generalize w24.drew = w25 at BK148 HB hHeld ⊢
           refine take_ (i := 0) (N := some 29) (v := ?_) (a' := ?_) #[true, false, false, false, false, false, false, false, false, false, false, false, false, false, false, false, false, false, false, false, false, false, false, false] rfl rfl (take_ofW HT_.out HW_.out (by kernel_rfl)) (fun _ _ _ h => h) (Or.inl ⟨by rfl, ?_⟩) hHeld ?_ ?_
           rotate_left
           ·rintro w' ⟨s0, s1, s2, s3, s4, s5, s6⟩
            go_simp
            with_reducible rfl
           rotate_left
           ·simp only [Act.put, List.setIfInBounds_toArray, List.set_cons_zero, List.set_cons_succ, i64_w, i32_w]
            rfl
           refine one_ (i := 1) (N := some 30) #[true, true, false, false, false, false, false, false, false, false, false, false, false, false, false, false, false, false, false, false, false, false, false, false] rfl rfl (one_of HT_.out (by kernel_rfl)) (by decide) (fun K hK => ?_)
           refine goes_ Tryd.func30 (by kernel_rfl) rfl #[.agg #[.int .i64 ((rd_T25 l2 x24_2).f0), .int .i64 ((rd_T25 l2 x24_2).f1.f0), .int .i64 ((rd_T25 l2 x24_2).f1.f1), .int .i64 ((rd_T25 l2 x24_2).f2.f0), .int .i64 ((rd_T25 l2 x24_2).f2.f1), .int .i64 ((rd_T25 l2 x24_2).f3.f0), .int .i64 ((rd_T25 l2 x24_2).f3.f1)]] (by rfl) rfl rfl (by (try simp only [List.map_toArray, List.map_cons, List.map_nil]); first | done | rfl | (simp only [List.length_drop, List.length_take]; rfl)) ?_
           with_reducible refine (rangeproof_isRight.calls ((rd_T25 l2 x24_2).f0) ((rd_T25 l2 x24_2).f1.f0) ((rd_T25 l2 x24_2).f1.f1) ((rd_T25 l2 x24_2).f2.f0) ((rd_T25 l2 x24_2).f2.f1) ((rd_T25 l2 x24_2).f3.f0) ((rd_T25 l2 x24_2).f3.f1) false _ A14.out).mono ?_
           rintro e w26 ⟨rfl, hb⟩
           refine ⟨_, rfl, ?_⟩
           have n0_ := Aside0.mk (blk_below (g := gb148) (o := .cells #[.int .i64 ((rd_T25 l2 x24_2).f0), .int .i64 ((rd_T25 l2 x24_2).f1.f0), .int .i64 ((rd_T25 l2 x24_2).f1.f1), .int .i64 ((rd_T25 l2 x24_2).f2.f0), .int .i64 ((rd_T25 l2 x24_2).f2.f1), .int .i64 ((rd_T25 l2 x24_2).f3.f0), .int .i64 ((rd_T25 l2 x24_2).f3.f1)] 25 (0, 0)) (by (with_reducible repeat (first | refine blk_drewN ?_ _ | refine blk_drew ?_ | refine blk_alloc ?_ _)); exact BK148.out) hb)
           have n1_ := Aside0.mk (below_step (by repeat (first | (with_reducible first | exact HB.out | apply below_alloc | apply pw_below_drewN | apply below_drew1 | refine below_set ?_ GE148.out) | exact HB.out)) hb)
           clear BK148
           clear HB
           have BK148 := n0_
           have HB := n1_
           clear n0_ n1_
           (try clear hb)
           (try clear hb2)
           (try clear hk)
           (try clear hi)
           refine hK.out _ _ ⟨(blk_cell BK148.out 0).trans rfl, (blk_cell BK148.out 1).trans rfl, (blk_cell BK148.out 2).trans rfl, (blk_cell BK148.out 3).trans rfl, (blk_cell BK148.out 4).trans rfl, (blk_cell BK148.out 5).trans rfl, (blk_cell BK148.out 6).trans rfl⟩ (fun hHeld => ?_)
           clear hK K
           refine norm_ (a' := ?_) ?_ ?_
           rotate_left
           ·show Act.put _ (some 30) _ = _
            simp only [Act.put, List.setIfInBounds_toArray, List.set_cons_zero, List.set_cons_succ, i64_w, i32_w]
            rfl
           refine pure_ (i := 2) (N := some 31) (v := ?_) (a' := ?_) #[true, true, true, false, false, false, false, false, false, false, false, false, false, false, false, false, false, false, false, false, false, false, false, false] rfl rfl (any_of HT_.out (by kernel_rfl)) (fun _ _ _ h => h) (Or.inl ⟨by rfl, ?_⟩) ?_ ?_
           rotate_left
           ·intro w'
            go_simp
            with_reducible rfl
           rotate_left
           ·simp only [Act.put, List.setIfInBounds_toArray, List.set_cons_zero, List.set_cons_succ, i64_w, i32_w]
            rfl
           refine pure_ (i := 3) (N := some 32) (v := ?_) (a' := ?_) #[true, true, true, true, false, false, false, false, false, false, false, false, false, false, false, false, false, false, false, false, false, false, false, false] rfl rfl (any_of HT_.out (by kernel_rfl)) (fun _ _ _ h => h) (Or.inl ⟨by rfl, ?_⟩) ?_ ?_
           rotate_left
           ·intro w'
            go_simp
            with_reducible rfl
           rotate_left
           ·simp only [Act.put, List.setIfInBounds_toArray, List.set_cons_zero, List.set_cons_succ, i64_w, i32_w]
            rfl
           refine pure_ (i := 4) (N := some 33) (v := undef) (a' := ?_) #[true, true, true, true, true, false, false, false, false, false, false, false, false, false, false, false, false, false, false, false, false, false, false, false] rfl rfl (any_of HT_.out (by kernel_rfl)) (fun _ _ _ h => h) (Or.inr ⟨by rfl, rfl⟩) ?_ ?_
           rotate_left
           ·simp only [Act.put, List.setIfInBounds_toArray, List.set_cons_zero, List.set_cons_succ, i64_w, i32_w]
            rfl
           refine pure_ (i := 5) (N := some 34) (v := undef) (a' := ?_) #[true, true, true, true, true, true, false, false, false, false, false, false, false, false, false, false, false, false, false, false, false, false, false, false] rfl rfl (any_of HT_.out (by kernel_rfl)) (fun _ _ _ h => h) (Or.inr ⟨by rfl, rfl⟩) ?_ ?_
           rotate_left
           ·simp only [Act.put, List.setIfInBounds_toArray, List.set_cons_zero, List.set_cons_succ, i64_w, i32_w]
            rfl
           refine pure_ (i := 6) (N := some 35) (v := undef) (a' := ?_) #[true, true, true, true, true, true, true, false, false, false, false, false, false, false, false, false, false, false, false, false, false, false, false, false] rfl rfl (any_of HT_.out (by kernel_rfl)) (fun _ _ _ h => h) (Or.inr ⟨by rfl, rfl⟩) ?_ ?_
           rotate_left
           ·simp only [Act.put, List.setIfInBounds_toArray, List.set_cons_zero, List.set_cons_succ, i64_w, i32_w]
            rfl
           refine pure_ (i := 7) (N := some 36) (v := undef) (a' := ?_) #[true, true, true, true, true, true, true, true, false, false, false, false, false, false, false, false, false, false, false, false, false, false, false, false] rfl rfl (any_of HT_.out (by kernel_rfl)) (fun _ _ _ h => h) (Or.inr ⟨by rfl, rfl⟩) ?_ ?_
           rotate_left
           ·simp only [Act.put, List.setIfInBounds_toArray, List.set_cons_zero, List.set_cons_succ, i64_w, i32_w]
            rfl
           refine pure_ (i := 8) (N := some 37) (v := undef) (a' := ?_) #[true, true, true, true, true, true, true, true, true, false, false, false, false, false, false, false, false, false, false, false, false, false, false, false] rfl rfl (any_of HT_.out (by kernel_rfl)) (fun _ _ _ h => h) (Or.inr ⟨by rfl, rfl⟩) ?_ ?_
           rotate_left
           ·simp only [Act.put, List.setIfInBounds_toArray, List.set_cons_zero, List.set_cons_succ, i64_w, i32_w]
            rfl
           refine pure_ (i := 9) (N := some 38) (v := undef) (a' := ?_) #[true, true, true, true, true, true, true, true, true, true, false, false, false, false, false, false, false, false, false, false, false, false, false, false] rfl rfl (any_of HT_.out (by kernel_rfl)) (fun _ _ _ h => h) (Or.inr ⟨by rfl, rfl⟩) ?_ ?_
           rotate_left
           ·simp only [Act.put, List.setIfInBounds_toArray, List.set_cons_zero, List.set_cons_succ, i64_w, i32_w]
            rfl
           refine pure_ (i := 10) (N := some 39) (v := undef) (a' := ?_) #[true, true, true, true, true, true, true, true, true, true, true, false, false, false, false, false, false, false, false, false, false, false, false, false] rfl rfl (any_of HT_.out (by kernel_rfl)) (fun _ _ _ h => h) (Or.inr ⟨by rfl, rfl⟩) ?_ ?_
           rotate_left
           ·simp only [Act.put, List.setIfInBounds_toArray, List.set_cons_zero, List.set_cons_succ, i64_w, i32_w]
            rfl
           refine pure_ (i := 11) (N := some 40) (v := undef) (a' := ?_) #[true, true, true, true, true, true, true, true, true, true, true, true, false, false, false, false, false, false, false, false, false, false, false, false] rfl rfl (any_of HT_.out (by kernel_rfl)) (fun _ _ _ h => h) (Or.inr ⟨by rfl, rfl⟩) ?_ ?_
           rotate_left
           ·simp only [Act.put, List.setIfInBounds_toArray, List.set_cons_zero, List.set_cons_succ, i64_w, i32_w]
            rfl
           refine pure_ (i := 12) (N := some 41) (v := undef) (a' := ?_) #[true, true, true, true, true, true, true, true, true, true, true, true, true, false, false, false, false, false, false, false, false, false, false, false] rfl rfl (any_of HT_.out (by kernel_rfl)) (fun _ _ _ h => h) (Or.inr ⟨by rfl, rfl⟩) ?_ ?_
           rotate_left
           ·simp only [Act.put, List.setIfInBounds_toArray, List.set_cons_zero, List.set_cons_succ, i64_w, i32_w]
            rfl
           refine pure_ (i := 13) (N := some 42) (v := undef) (a' := ?_) #[true, true, true, true, true, true, true, true, true, true, true, true, true, true, false, false, false, false, false, false, false, false, false, false] rfl rfl (any_of HT_.out (by kernel_rfl)) (fun _ _ _ h => h) (Or.inr ⟨by rfl, rfl⟩) ?_ ?_
           rotate_left
           ·simp only [Act.put, List.setIfInBounds_toArray, List.set_cons_zero, List.set_cons_succ, i64_w, i32_w]
            rfl
           refine pure_ (i := 14) (N := some 43) (v := undef) (a' := ?_) #[true, true, true, true, true, true, true, true, true, true, true, true, true, true, true, false, false, false, false, false, false, false, false, false] rfl rfl (any_of HT_.out (by kernel_rfl)) (fun _ _ _ h => h) (Or.inr ⟨by rfl, rfl⟩) ?_ ?_
           rotate_left
           ·simp only [Act.put, List.setIfInBounds_toArray, List.set_cons_zero, List.set_cons_succ, i64_w, i32_w]
            rfl
           refine pure_ (i := 15) (N := some 44) (v := undef) (a' := ?_) #[true, true, true, true, true, true, true, true, true, true, true, true, true, true, true, true, false, false, false, false, false, false, false, false] rfl rfl (any_of HT_.out (by kernel_rfl)) (fun _ _ _ h => h) (Or.inr ⟨by rfl, rfl⟩) ?_ ?_
           rotate_left
           ·simp only [Act.put, List.setIfInBounds_toArray, List.set_cons_zero, List.set_cons_succ, i64_w, i32_w]
            rfl
           refine pure_ (i := 16) (N := some 45) (v := undef) (a' := ?_) #[true, true, true, true, true, true, true, true, true, true, true, true, true, true, true, true, true, false, false, false, false, false, false, false] rfl rfl (any_of HT_.out (by kernel_rfl)) (fun _ _ _ h => h) (Or.inr ⟨by rfl, rfl⟩) ?_ ?_
           rotate_left
           ·simp only [Act.put, List.setIfInBounds_toArray, List.set_cons_zero, List.set_cons_succ, i64_w, i32_w]
            rfl
           refine pure_ (i := 17) (N := some 46) (v := undef) (a' := ?_) #[true, true, true, true, true, true, true, true, true, true, true, true, true, true, true, true, true, true, false, false, false, false, false, false] rfl rfl (any_of HT_.out (by kernel_rfl)) (fun _ _ _ h => h) (Or.inr ⟨by rfl, rfl⟩) ?_ ?_
           rotate_left
           ·simp only [Act.put, List.setIfInBounds_toArray, List.set_cons_zero, List.set_cons_succ, i64_w, i32_w]
            rfl
           refine pure_ (i := 18) (N := some 47) (v := undef) (a' := ?_) #[true, true, true, true, true, true, true, true, true, true, true, true, true, true, true, true, true, true, true, false, false, false, false, false] rfl rfl (any_of HT_.out (by kernel_rfl)) (fun _ _ _ h => h) (Or.inr ⟨by rfl, rfl⟩) ?_ ?_
           rotate_left
           ·simp only [Act.put, List.setIfInBounds_toArray, List.set_cons_zero, List.set_cons_succ, i64_w, i32_w]
            rfl
           refine pure_ (i := 19) (N := some 48) (v := undef) (a' := ?_) #[true, true, true, true, true, true, true, true, true, true, true, true, true, true, true, true, true, true, true, true, false, false, false, false] rfl rfl (any_of HT_.out (by kernel_rfl)) (fun _ _ _ h => h) (Or.inr ⟨by rfl, rfl⟩) ?_ ?_
           rotate_left
           ·simp only [Act.put, List.setIfInBounds_toArray, List.set_cons_zero, List.set_cons_succ, i64_w, i32_w]
            rfl
           refine pure_ (i := 20) (N := some 49) (v := undef) (a' := ?_) #[true, true, true, true, true, true, true, true, true, true, true, true, true, true, true, true, true, true, true, true, true, false, false, false] rfl rfl (any_of HT_.out (by kernel_rfl)) (fun _ _ _ h => h) (Or.inr ⟨by rfl, rfl⟩) ?_ ?_
           rotate_left
           ·simp only [Act.put, List.setIfInBounds_toArray, List.set_cons_zero, List.set_cons_succ, i64_w, i32_w]
            rfl
           refine pure_ (i := 21) (N := some 50) (v := undef) (a' := ?_) #[true, true, true, true, true, true, true, true, true, true, true, true, true, true, true, true, true, true, true, true, true, true, false, false] rfl rfl (any_of HT_.out (by kernel_rfl)) (fun _ _ _ h => h) (Or.inr ⟨by rfl, rfl⟩) ?_ ?_
           rotate_left
           ·simp only [Act.put, List.setIfInBounds_toArray, List.set_cons_zero, List.set_cons_succ, i64_w, i32_w]
            rfl
           refine pure_ (i := 22) (N := some 51) (v := undef) (a' := ?_) #[true, true, true, true, true, true, true, true, true, true, true, true, true, true, true, true, true, true, true, true, true, true, true, false] rfl rfl (any_of HT_.out (by kernel_rfl)) (fun _ _ _ h => h) (Or.inr ⟨by rfl, rfl⟩) ?_ ?_
           rotate_left
           ·simp only [Act.put, List.setIfInBounds_toArray, List.set_cons_zero, List.set_cons_succ, i64_w, i32_w]
            rfl
           refine pure_ (i := 23) (N := some 52) (v := ?_) (a' := ?_) #[true, true, true, true, true, true, true, true, true, true, true, true, true, true, true, true, true, true, true, true, true, true, true, true] rfl rfl (any_of HT_.out (by kernel_rfl)) (fun _ _ _ h => h) (Or.inl ⟨by rfl, ?_⟩) ?_ ?_
           rotate_left
           ·intro w'
            go_simp
            with_reducible rfl
           rotate_left
           ·simp only [Act.put, List.setIfInBounds_toArray, List.set_cons_zero, List.set_cons_succ, i64_w, i32_w]
            rfl
           refine done_ (done_of HT_.out (by kernel_rfl)) ?_
           try go_wp2
           go_meet
           case rel => exact ⟨_, (true), (by first | rfl | (simp; done) | (simp [*]; done)), H', ⟨by have := HJ3.out; have := HK2.out; first | omega | exact Nat.le_refl _⟩, ⟨by (with_reducible repeat (first | refine blk_drewN ?_ _ | refine blk_drew ?_ | refine blk_alloc ?_ _)); exact BK148.out⟩, ⟨by repeat (first | (with_reducible first | exact HB.out | apply below_alloc | apply pw_below_drewN | apply below_drew1 | refine below_set ?_ GE148.out) | exact HB.out)⟩⟩
         case rest =>
          clear HC11
          try clear c1
          try clear p1
          try clear q1
          try clear hx1
          try clear c2
          try clear p2
          try clear c3
          try clear c5
          try clear c5b0
          try clear c6
          try clear c6b0
          try clear p6
          try clear c7
          try clear c8
          try clear c8b0
          try clear c9
          try clear c9b0
          try clear c10
          try clear c10b0
          try clear p14
          try clear q14
          try clear hx14
          try clear c15
          try clear c24
          try clear hcz13_0
          try clear hcz13_1
          try clear hcz13_2
          try clear hcz13_3
          try clear hcz13_4
          try clear hcz13_5
          try clear hcz13_6
          try clear hfz13_0
          try clear hfz13_1
          try clear hfz13_2
          try clear hfz13_3
          try clear hfz13_4
          try clear hfz13_5
          try clear hfz13_6
          try clear hx147_0
          try clear hx147_1
          try clear hx147_2
          try clear hx147_3
          try clear hx147_4
          try clear hx147_5
          try clear hx147_6
          try clear p147
          try clear p2
          try clear q147
          obtain ⟨kq, x52_10, rfl, HA, HJ10, BK148, HB⟩ := hcut
          cases kq with
          | zero => exact absurd HA.out (by simp [rangeproof_Verify.j2])
          | succ kj10 =>
           have H := HA.out
           clear HA
           simp only [rangeproof_Verify.j2] at H
           by_cases c27 : x52_10 = true
           ·subst c27
            have H1 : (some false) = some r := by rw [if_pos rfl] at H; exact H
            clear H
            have H := H1
            clear H1
            obtain rfl := Option.some.inj H
            go_wp2
            go_ret
            exact ⟨by first | rfl | (simp [errW_none, errW_some] <;> rfl) | (simp [*, errW_none, errW_some] <;> rfl), by repeat (first | (with_reducible first | exact HB.out | apply below_alloc | apply pw_below_drewN | apply below_drew1 | refine below_set ?_ GE148.out) | exact HB.out)⟩
           ·replace c27 := Bool.eq_false_iff.mpr c27
            subst c27
            have H1 : (if 0 ≤ x24_2 then ((rangeproof_element_to.f ((rd_T25 l2 x24_2).f0) (shl .i64 1 x24_2)).bind fun t154 => ((rangeproof_element_times.f x7_2 t154).bind fun t155 => (rangeproof_Verify.l0 kj10 a0 t155 l2 (l2.length : Int) (wrap64 (x24_2 + 1))))) else (none)) = some r := by rw [if_neg (show ¬ (false = true) by decide)] at H; exact H
            clear H
            have H := H1
            clear H1
            by_cases c28 : 0 ≤ x24_2
            ·rw [if_pos c28] at H
             have c28b0 := eq_true c28
             have c28b1 : decide (0 ≤ x24_2) = true := decide_eq_true c28
             clear c28
             obtain ⟨ji29, hji29⟩ : ∃ j_ : Int, (shl .i64 1 x24_2) = j_ := ⟨_, rfl⟩
             replace H : ((rangeproof_element_to.f ((rd_T25 l2 x24_2).f0) (ji29)).bind fun t154 => ((rangeproof_element_times.f x7_2 t154).bind fun t155 => (rangeproof_Verify.l0 kj10 a0 t155 l2 (l2.length : Int) (wrap64 (x24_2 + 1))))) = some r := by first | (rw [hji29] at H; exact H) | (simp only [hji29] at H ⊢; exact H)
             have hji29_ : (IntKind.i64.wrap (1 * 2 ^ min x24_2.toNat 64)) = ji29 := hji29
             have hji29z : x24_2 ≤ 64 → (IntKind.i64.wrap (1 * 2 ^ x24_2.toNat)) = ji29 := shl_small hji29
             have hji29u : (IntKind.i64.wrap (2 ^ min x24_2.toNat 64)) = ji29 := by have h_ := hji29_; rw [Int.one_mul] at h_; exact h_
             have hji29v : x24_2 ≤ 64 → (IntKind.i64.wrap (2 ^ x24_2.toNat)) = ji29 := fun hle_ => by have h_ := hji29z hle_; rw [Int.one_mul] at h_; exact h_
             have hji29y : (wrap64 (1 * 2 ^ min x24_2.toNat 64)) = ji29 := (i64_w _).symm.trans hji29_
             have hji29x : x24_2 ≤ 64 → (wrap64 (1 * 2 ^ x24_2.toNat)) = ji29 := fun h_ => (i64_w _).symm.trans (hji29z h_)
             replace H := Option.bind_eq_some_iff.mp H
             obtain ⟨t154, A300, H⟩ := H
             replace H : ((rangeproof_element_times.f x7_2 t154).bind fun t155 => (rangeproof_Verify.l0 kj10 a0 t155 l2 (l2.length : Int) (wrap64 (x24_2 + 1)))) = some r := H
             have A30 := Aside0.mk A300
             clear A300
             replace H := Option.bind_eq_some_iff.mp H
             obtain ⟨t155, A310, H⟩ := H
             replace H : (rangeproof_Verify.l0 kj10 a0 t155 l2 (l2.length : Int) (wrap64 (x24_2 + 1))) = some r := H
             have A31 := Aside0.mk A310
             clear A310
             have H' := Aside0.mk H
             clear H
             try go_wp2
             have n0_ := Aside0.mk (blk_drew BK148.out)
             have n1_ := Aside0.mk (below_drew1 HB.out)
             clear BK148
             clear HB
             have BK148 := n0_
             have HB := n1_
             clear n0_ n1_
             refine start_ (n := 8) (S := fun w' => w'.cell? ⟨gb148, 0, none⟩ = some (.int .i64 ((rd_T25 l2 x24_2).f0)) ∧ w'.cell? ⟨gb148, 1, none⟩ = some (.int .i64 ((rd_T25 l2 x24_2).f1.f0)) ∧ w'.cell? ⟨gb148, 2, none⟩ = some (.int .i64 ((rd_T25 l2 x24_2).f1.f1)) ∧ w'.cell? ⟨gb148, 3, none⟩ = some (.int .i64 ((rd_T25 l2 x24_2).f2.f0)) ∧ w'.cell? ⟨gb148, 4, none⟩ = some (.int .i64 ((rd_T25 l2 x24_2).f2.f1)) ∧ w'.cell? ⟨gb148, 5, none⟩ = some (.int .i64 ((rd_T25 l2 x24_2).f3.f0)) ∧ w'.cell? ⟨gb148, 6, none⟩ = some (.int .i64 ((rd_T25 l2 x24_2).f3.f1))) (ds := []) #[false, false, false, false, false, false, false, false] (by kernel_rfl) rfl rfl ⟨(blk_cell BK148.out 0).trans rfl, (blk_cell BK148.out 1).trans rfl, (blk_cell BK148.out 2).trans rfl, (blk_cell BK148.out 3).trans rfl, (blk_cell BK148.out 4).trans rfl, (blk_cell BK148.out 5).trans rfl, (blk_cell BK148.out 6).trans rfl⟩ (fun hHeld => ?_); refine with_tabW rangeproof_Verify.tab9 rangeproof_Verify.bits9 (fun HT_ HW_ => ?_)
             generalize wc.drew = w32 at BK148 HB hHeld ⊢
             refine pure_ (i := 0) (N := some 53) (v := ?_) (a' := ?_) #[true, false, false, false, false, false, false, false] rfl rfl (any_of HT_.out (by kernel_rfl)) (fun _ _ _ h => h) (Or.inl ⟨by rfl, ?_⟩) ?_ ?_
             rotate_left
             ·intro w'
              go_simp
              with_reducible rfl
             rotate_left
             ·simp only [Act.put, List.setIfInBounds_toArray, List.set_cons_zero, List.set_cons_succ, i64_w, i32_w]
              rfl
             refine pure_ (i := 1) (N := some 54) (v := ?_) (a' := ?_) #[true, true, false, false, false, false, false, false] rfl rfl (any_of HT_.out (by kernel_rfl)) (fun _ _ _ h => h) (Or.inl ⟨by rfl, ?_⟩) ?_ ?_
             rotate_left
             ·intro w'
              go_simp
              with_reducible rfl
             rotate_left
             ·simp only [Act.put, List.setIfInBounds_toArray, List.set_cons_zero, List.set_cons_succ, i64_w, i32_w]
              rfl
             refine pure_ (i := 3) (N := some 56) (v := ?_) (a' := ?_) #[true, true, false, true, false, false, false, false] rfl rfl (any_of HT_.out (by kernel_rfl)) (fun _ _ _ h => h) (Or.inl ⟨by rfl, ?_⟩) ?_ ?_
             rotate_left
             ·intro w'
              go_simp
              with_reducible rfl
             rotate_left
             ·simp only [Act.put, List.setIfInBounds_toArray, List.set_cons_zero, List.set_cons_succ, i64_w, i32_w]
              rfl
             refine pure_ (i := 4) (N := some 57) (v := ?_) (a' := ?_) #[true, true, false, true, true, false, false, false] rfl rfl (any_of HT_.out (by kernel_rfl)) (fun _ _ _ h => h) (Or.inl ⟨by rfl, ?_⟩) ?_ ?_
             rotate_left
             ·intro w'
              go_simp
              with_reducible rfl
             rotate_left
             ·simp only [Act.put, List.setIfInBounds_toArray, List.set_cons_zero, List.set_cons_succ, i64_w, i32_w]
              rfl
             refine take_ (i := 2) (N := some 55) (v := ?_) (a' := ?_) #[true, true, true, true, true, false, false, false] rfl rfl (take_ofW HT_.out HW_.out (by kernel_rfl)) (fun _ _ _ h => h) (Or.inl ⟨by rfl, ?_⟩) hHeld ?_ ?_
             rotate_left
             ·rintro w' ⟨s0, s1, s2, s3, s4, s5, s6⟩
              go_simp
              with_reducible rfl
             rotate_left
             ·simp only [Act.put, List.setIfInBounds_toArray, List.set_cons_zero, List.set_cons_succ, i64_w, i32_w]
              rfl
             refine one_ (i := 5) (N := some 58) #[true, true, true, true, true, true, false, false] rfl rfl (one_of HT_.out (by kernel_rfl)) (by decide) (fun K hK => ?_)
             refine goes_ Tryd.func35 (by kernel_rfl) rfl #[.int .i64 ((rd_T25 l2 x24_2).f0), .int .i64 ji29] (by rfl) rfl rfl (by (try simp only [List.map_toArray, List.map_cons, List.map_nil]); first | done | (simp only [hji29]; rfl) | rfl | (simp only [List.length_drop, List.length_take]; rfl)) ?_
             with_reducible refine (rangeproof_element_to.calls ((rd_T25 l2 x24_2).f0) ji29 t154 _ A30.out).mono ?_
             rintro e w33 ⟨rfl, hb⟩
             refine ⟨_, rfl, ?_⟩
             have n0_ := Aside0.mk (blk_below (g := gb148) (o := .cells #[.int .i64 ((rd_T25 l2 x24_2).f0), .int .i64 ((rd_T25 l2 x24_2).f1.f0), .int .i64 ((rd_T25 l2 x24_2).f1.f1), .int .i64 ((rd_T25 l2 x24_2).f2.f0), .int .i64 ((rd_T25 l2 x24_2).f2.f1), .int .i64 ((rd_T25 l2 x24_2).f3.f0), .int .i64 ((rd_T25 l2 x24_2).f3.f1)] 25 (0, 0)) (by (with_reducible repeat (first | refine blk_drewN ?_ _ | refine blk_drew ?_ | refine blk_alloc ?_ _)); exact BK148.out) hb)
             have n1_ := Aside0.mk (below_step (by repeat (first | (with_reducible first | exact HB.out | apply below_alloc | apply pw_below_drewN | apply below_drew1 | refine below_set ?_ GE148.out) | exact HB.out)) hb)
             clear BK148
             clear HB
             have BK148 := n0_
             have HB := n1_
             clear n0_ n1_
             (try clear hb)
             (try clear hb2)
             (try clear hk)
             (try clear hi)
             refine hK.out _ _ ⟨(blk_cell BK148.out 0).trans rfl, (blk_cell BK148.out 1).trans rfl, (blk_cell BK148.out 2).trans rfl, (blk_cell BK148.out 3).trans rfl, (blk_cell BK148.out 4).trans rfl, (blk_cell BK148.out 5).trans rfl, (blk_cell BK148.out 6).trans rfl⟩ (fun hHeld => ?_)
             clear hK K
             refine norm_ (a' := ?_) ?_ ?_
             rotate_left
             ·show Act.put _ (some 58) _ = _
              simp only [Act.put, List.setIfInBounds_toArray, List.set_cons_zero, List.set_cons_succ, i64_w, i32_w]
              rfl
             refine one_ (i := 6) (N := some 59) #[true, true, true, true, true, true, true, false] rfl rfl (one_of HT_.out (by kernel_rfl)) (by decide) (fun K hK => ?_)
             refine goes_ Tryd.func34 (by kernel_rfl) rfl #[.int .i64 x7_2, .int .i64 t154] (by rfl) rfl rfl (by (try simp only [List.map_toArray, List.map_cons, List.map_nil]); first | done | rfl | (simp only [List.length_drop, List.length_take]; rfl)) ?_
             with_reducible refine (rangeproof_element_times.calls x7_2 t154 t155 _ A31.out).mono ?_
             rintro e w' ⟨rfl, ⟨nd, rfl⟩⟩
             refine ⟨_, rfl, ?_⟩
             refine hK.out _ _ ⟨(blk_cell BK148.out 0).trans rfl, (blk_cell BK148.out 1).trans rfl, (blk_cell BK148.out 2).trans rfl, (blk_cell BK148.out 3).trans rfl, (blk_cell BK148.out 4).trans rfl, (blk_cell BK148.out 5).trans rfl, (blk_cell BK148.out 6).trans rfl⟩ (fun hHeld => ?_)
             clear hK K
             refine norm_ (a' := ?_) ?_ ?_
             rotate_left
             ·show Act.put _ (some 59) _ = _
              simp only [Act.put, List.setIfInBounds_toArray, List.set_cons_zero, List.set_cons_succ, i64_w, i32_w]
              rfl
             refine pure_ (i := 7) (N := some 7) (v := ?_) (a' := ?_) #[true, true, true, true, true, true, true, true] rfl rfl (any_of HT_.out (by kernel_rfl)) (fun _ _ _ h => h) (Or.inl ⟨by rfl, ?_⟩) ?_ ?_
             rotate_left
             ·intro w'
              go_simp
              with_reducible rfl
             rotate_left
             ·simp only [Act.put, List.setIfInBounds_toArray, List.set_cons_zero, List.set_cons_succ, i64_w, i32_w]
              rfl
             refine done_ (done_of HT_.out (by kernel_rfl)) ?_
             try go_wp2
             go_roundg kj10
             case measure => have := HJ3.out; have := HK2.out; have := HJ10.out; omega
             case rel => exact ⟨(t155), (wrap64 (x24_2 + 1)), (by first | rfl | (simp; done) | (simp [*]; done)), (by first | rfl | (simp; done) | (simp [*]; done)), H', ⟨by have := HJ3.out; have := HK2.out; have := HJ10.out; omega⟩, ⟨by repeat (first | (with_reducible first | exact HB.out | apply below_alloc | apply pw_below_drewN | apply below_drew1 | refine below_set ?_ GE148.out) | exact HB.out)⟩⟩
            ·rw [if_neg c28] at H
             exact absurd H (by simp)
        ·rw [if_neg c10] at H
         exact absurd H (by simp)
       ·rw [if_neg c9] at H
        exact absurd H (by simp)
      ·rw [if_neg c8] at H
       have c8b0 : decide (x24_2 < (l2.length : Int)) = false := decide_eq_false c8
       clear c8
       obtain rfl := Option.some.inj H
       go_wp2
       go_ret
       exact ⟨by first | rfl | (simp [errW_none, errW_some] <;> rfl) | (simp [*, errW_none, errW_some] <;> rfl), by repeat (first | (with_reducible first | exact HB.out | apply below_alloc | apply pw_below_drewN | apply below_drew1) | exact HB.out)⟩

end Go.Proofs.YtnlgnmlobklobaaDoor.PAll
