-- Written by myprint.py over the kit's print.py (a printed text of this session's own make).
import Derived.Test.YthakhcnpiobpgaaDoorPAllx2
namespace Go.Proofs.YthakhcnpiobpgaaDoor.PAll
open Go.Proofs.YthakhcnpiobpgaaDoor.Stub Go.Proofs.YthakhcnpiobpgaaDoor.CalA
open List (setIfInBounds_toArray set_cons_zero set_cons_succ)
open Go.RowKit Go.Proofs.YthakhcnpiobpgaaDoorW.PrintWords Go.Proofs.YthakhcnpiobpgaaDoorW.PrintLast Go.Proofs.YthakhcnpiobpgaaDoorW.PrintMore
attribute [local go_sem] max2_int min2_int max_two min_two max_three min_three max_four min_four   -- for this text's walks alone
set_option linter.unusedVariables false
set_option linter.unusedSimpArgs false

/-! ### CI: function 4 -/
def CI.j0 : Nat → Bool → Int → Int → Int → Option (Bool)
 | 0, _, _, _, _ => none
 | k + 1, x7, x147000, x147001, x147002 => (wageofficelaw02_pick.f x147000 102).bind fun t160 => ((wageofficelaw02_pick.f x147001 14).bind fun t161 => ((wageofficelaw02_pick.f x147002 33).bind fun t162 => ((calendar_Day.f (wrap64 (1999 + t160)) t161 t162).bind fun bt164 => (if bt164.2 = 0 then ((calendar_Date.f bt164.1).bind fun bt166 => (if x7 = true then (if bt166.1 = (wrap64 (1999 + t160)) then (if bt166.2.1 = t161 then (some (bt166.2.2 == t162)) else (some false)) else (some false)) else (some false))) else (if x7 = true then (if bt164.2 = 21 then (some (bt164.1 == 0)) else (some false)) else (some false))))))
def CI.f (k : Nat) (a0 : Int) (a1 : Int) (a2_0 : Int) (a2_1 : Int) (a2_2 : Int) : Option (Bool) := (wageofficelaw02_head.f k).bind fun t147 => ((wageofficelaw02_pick.f a0 36525).bind fun t148 => ((wageofficelaw02_pick.f a1 36525).bind fun t149 => ((calendar_Date.f t148).bind fun bt150 => ((calendar_Day.f bt150.1 bt150.2.1 bt150.2.2).bind fun bt153 => ((calendar_Text.f k t148).bind fun t155 => ((calendar_Parse.f t155).bind fun bt156 => (if t147 = true then (if bt153.2 = 0 then (if bt156.2 = 0 then (if bt153.1 = t148 then (if bt156.1 = t148 then (if (t155.size : Int) = 10 then ((calendar_Text.f k t149).bind fun t158 => (if ((t155.toList == t158.toList) == (t148 == t149)) = true then ((calendar_Text.f k t149).bind fun t159 => (CI.j0 k ((Op.bytesLess t155.toList t159.toList) == (decide (t148 < t149))) a2_0 a2_1 a2_2)) else (CI.j0 k false a2_0 a2_1 a2_2))) else (CI.j0 k false a2_0 a2_1 a2_2)) else (CI.j0 k false a2_0 a2_1 a2_2)) else (CI.j0 k false a2_0 a2_1 a2_2)) else (CI.j0 k false a2_0 a2_1 a2_2)) else (CI.j0 k false a2_0 a2_1 a2_2)) else (CI.j0 k false a2_0 a2_1 a2_2))))))))
def CI.T9 : Bool × List (List Nat × List Nat) := (true, [([], []), ([0], [0]), ([1], [1]), ([2], [2]), ([], []), ([4], [4]), ([5, 2], [5]), ([], []), ([7], [7]), ([8, 6], [8]), ([3, 6, 9], [3, 6, 9]), ([], []), ([11, 10, 9, 0, 1, 2, 3, 4, 5, 6, 7, 8, 9, 10, 11], [10, 11])])
def CI.B9 : List Nat := [0, 1, 3, 7, 0, 16, 55, 0, 128, 503, 1023, 0, 4095]
theorem CI.tab9 : rtab .any (opsOf Tryd.f4 9) = CI.T9 := by kernel_rfl
theorem CI.bits9 : waitsOk CI.T9.2 CI.B9 = true := by kernel_rfl
set_option maxHeartbeats 8000000 in
set_option maxRecDepth 100000 in
theorem CI.calls (k : Nat) (a0 : Int) (a1 : Int) (a2_0 : Int) (a2_1 : Int) (a2_2 : Int) (r : Bool) (w : World) (h : CI.f k a0 a1 a2_0 a2_1 a2_2 = some r) (hTBefore0 : TabBefore w) :
  Calls Tryd.prog 4 #[.int .i64 a0, .int .i64 a1, .agg #[.int .i64 a2_0, .int .i64 a2_1, .int .i64 a2_2]] w fun e w' => e = .returned (.bool r) ∧ Below w.heap.size w w' := by
 have hTBefore := Aside0.mk hTBefore0
 clear hTBefore0
 have hu22 := Tryd.underlying22
 have HB := Aside0.mk (Below.refl w.heap.size w)
 have H : ((wageofficelaw02_head.f k).bind fun t147 => ((wageofficelaw02_pick.f a0 36525).bind fun t148 => ((wageofficelaw02_pick.f a1 36525).bind fun t149 => ((calendar_Date.f t148).bind fun bt150 => ((calendar_Day.f bt150.1 bt150.2.1 bt150.2.2).bind fun bt153 => ((calendar_Text.f k t148).bind fun t155 => ((calendar_Parse.f t155).bind fun bt156 => (if t147 = true then (if bt153.2 = 0 then (if bt156.2 = 0 then (if bt153.1 = t148 then (if bt156.1 = t148 then (if (t155.size : Int) = 10 then ((calendar_Text.f k t149).bind fun t158 => (if ((t155.toList == t158.toList) == (t148 == t149)) = true then ((calendar_Text.f k t149).bind fun t159 => (CI.j0 k ((Op.bytesLess t155.toList t159.toList) == (decide (t148 < t149))) a2_0 a2_1 a2_2)) else (CI.j0 k false a2_0 a2_1 a2_2))) else (CI.j0 k false a2_0 a2_1 a2_2)) else (CI.j0 k false a2_0 a2_1 a2_2)) else (CI.j0 k false a2_0 a2_1 a2_2)) else (CI.j0 k false a2_0 a2_1 a2_2)) else (CI.j0 k false a2_0 a2_1 a2_2)) else (CI.j0 k false a2_0 a2_1 a2_2))))))))) = some r := h
 clear h
 replace H := Option.bind_eq_some_iff.mp H
 obtain ⟨t147, A40, H⟩ := H
 replace H : ((wageofficelaw02_pick.f a0 36525).bind fun t148 => ((wageofficelaw02_pick.f a1 36525).bind fun t149 => ((calendar_Date.f t148).bind fun bt150 => ((calendar_Day.f bt150.1 bt150.2.1 bt150.2.2).bind fun bt153 => ((calendar_Text.f k t148).bind fun t155 => ((calendar_Parse.f t155).bind fun bt156 => (if t147 = true then (if bt153.2 = 0 then (if bt156.2 = 0 then (if bt153.1 = t148 then (if bt156.1 = t148 then (if (t155.size : Int) = 10 then ((calendar_Text.f k t149).bind fun t158 => (if ((t155.toList == t158.toList) == (t148 == t149)) = true then ((calendar_Text.f k t149).bind fun t159 => (CI.j0 k ((Op.bytesLess t155.toList t159.toList) == (decide (t148 < t149))) a2_0 a2_1 a2_2)) else (CI.j0 k false a2_0 a2_1 a2_2))) else (CI.j0 k false a2_0 a2_1 a2_2)) else (CI.j0 k false a2_0 a2_1 a2_2)) else (CI.j0 k false a2_0 a2_1 a2_2)) else (CI.j0 k false a2_0 a2_1 a2_2)) else (CI.j0 k false a2_0 a2_1 a2_2)) else (CI.j0 k false a2_0 a2_1 a2_2)))))))) = some r := H
 have A4 := Aside0.mk A40
 clear A40
 replace H := Option.bind_eq_some_iff.mp H
 obtain ⟨t148, A50, H⟩ := H
 replace H : ((wageofficelaw02_pick.f a1 36525).bind fun t149 => ((calendar_Date.f t148).bind fun bt150 => ((calendar_Day.f bt150.1 bt150.2.1 bt150.2.2).bind fun bt153 => ((calendar_Text.f k t148).bind fun t155 => ((calendar_Parse.f t155).bind fun bt156 => (if t147 = true then (if bt153.2 = 0 then (if bt156.2 = 0 then (if bt153.1 = t148 then (if bt156.1 = t148 then (if (t155.size : Int) = 10 then ((calendar_Text.f k t149).bind fun t158 => (if ((t155.toList == t158.toList) == (t148 == t149)) = true then ((calendar_Text.f k t149).bind fun t159 => (CI.j0 k ((Op.bytesLess t155.toList t159.toList) == (decide (t148 < t149))) a2_0 a2_1 a2_2)) else (CI.j0 k false a2_0 a2_1 a2_2))) else (CI.j0 k false a2_0 a2_1 a2_2)) else (CI.j0 k false a2_0 a2_1 a2_2)) else (CI.j0 k false a2_0 a2_1 a2_2)) else (CI.j0 k false a2_0 a2_1 a2_2)) else (CI.j0 k false a2_0 a2_1 a2_2)) else (CI.j0 k false a2_0 a2_1 a2_2))))))) = some r := H
 have A5 := Aside0.mk A50
 clear A50
 replace H := Option.bind_eq_some_iff.mp H
 obtain ⟨t149, A60, H⟩ := H
 replace H : ((calendar_Date.f t148).bind fun bt150 => ((calendar_Day.f bt150.1 bt150.2.1 bt150.2.2).bind fun bt153 => ((calendar_Text.f k t148).bind fun t155 => ((calendar_Parse.f t155).bind fun bt156 => (if t147 = true then (if bt153.2 = 0 then (if bt156.2 = 0 then (if bt153.1 = t148 then (if bt156.1 = t148 then (if (t155.size : Int) = 10 then ((calendar_Text.f k t149).bind fun t158 => (if ((t155.toList == t158.toList) == (t148 == t149)) = true then ((calendar_Text.f k t149).bind fun t159 => (CI.j0 k ((Op.bytesLess t155.toList t159.toList) == (decide (t148 < t149))) a2_0 a2_1 a2_2)) else (CI.j0 k false a2_0 a2_1 a2_2))) else (CI.j0 k false a2_0 a2_1 a2_2)) else (CI.j0 k false a2_0 a2_1 a2_2)) else (CI.j0 k false a2_0 a2_1 a2_2)) else (CI.j0 k false a2_0 a2_1 a2_2)) else (CI.j0 k false a2_0 a2_1 a2_2)) else (CI.j0 k false a2_0 a2_1 a2_2)))))) = some r := H
 have A6 := Aside0.mk A60
 clear A60
 replace H := Option.bind_eq_some_iff.mp H
 obtain ⟨⟨t150, t151, t152⟩, A70, H⟩ := H
 replace H : ((calendar_Day.f t150 t151 t152).bind fun bt153 => ((calendar_Text.f k t148).bind fun t155 => ((calendar_Parse.f t155).bind fun bt156 => (if t147 = true then (if bt153.2 = 0 then (if bt156.2 = 0 then (if bt153.1 = t148 then (if bt156.1 = t148 then (if (t155.size : Int) = 10 then ((calendar_Text.f k t149).bind fun t158 => (if ((t155.toList == t158.toList) == (t148 == t149)) = true then ((calendar_Text.f k t149).bind fun t159 => (CI.j0 k ((Op.bytesLess t155.toList t159.toList) == (decide (t148 < t149))) a2_0 a2_1 a2_2)) else (CI.j0 k false a2_0 a2_1 a2_2))) else (CI.j0 k false a2_0 a2_1 a2_2)) else (CI.j0 k false a2_0 a2_1 a2_2)) else (CI.j0 k false a2_0 a2_1 a2_2)) else (CI.j0 k false a2_0 a2_1 a2_2)) else (CI.j0 k false a2_0 a2_1 a2_2)) else (CI.j0 k false a2_0 a2_1 a2_2))))) = some r := H
 have A7 := Aside0.mk A70
 clear A70
 replace H := Option.bind_eq_some_iff.mp H
 obtain ⟨⟨t153, t154⟩, A80, H⟩ := H
 replace H : ((calendar_Text.f k t148).bind fun t155 => ((calendar_Parse.f t155).bind fun bt156 => (if t147 = true then (if t154 = 0 then (if bt156.2 = 0 then (if t153 = t148 then (if bt156.1 = t148 then (if (t155.size : Int) = 10 then ((calendar_Text.f k t149).bind fun t158 => (if ((t155.toList == t158.toList) == (t148 == t149)) = true then ((calendar_Text.f k t149).bind fun t159 => (CI.j0 k ((Op.bytesLess t155.toList t159.toList) == (decide (t148 < t149))) a2_0 a2_1 a2_2)) else (CI.j0 k false a2_0 a2_1 a2_2))) else (CI.j0 k false a2_0 a2_1 a2_2)) else (CI.j0 k false a2_0 a2_1 a2_2)) else (CI.j0 k false a2_0 a2_1 a2_2)) else (CI.j0 k false a2_0 a2_1 a2_2)) else (CI.j0 k false a2_0 a2_1 a2_2)) else (CI.j0 k false a2_0 a2_1 a2_2)))) = some r := H
 have A8 := Aside0.mk A80
 clear A80
 replace H := Option.bind_eq_some_iff.mp H
 obtain ⟨t155, A90, H⟩ := H
 replace H : ((calendar_Parse.f t155).bind fun bt156 => (if t147 = true then (if t154 = 0 then (if bt156.2 = 0 then (if t153 = t148 then (if bt156.1 = t148 then (if (t155.size : Int) = 10 then ((calendar_Text.f k t149).bind fun t158 => (if ((t155.toList == t158.toList) == (t148 == t149)) = true then ((calendar_Text.f k t149).bind fun t159 => (CI.j0 k ((Op.bytesLess t155.toList t159.toList) == (decide (t148 < t149))) a2_0 a2_1 a2_2)) else (CI.j0 k false a2_0 a2_1 a2_2))) else (CI.j0 k false a2_0 a2_1 a2_2)) else (CI.j0 k false a2_0 a2_1 a2_2)) else (CI.j0 k false a2_0 a2_1 a2_2)) else (CI.j0 k false a2_0 a2_1 a2_2)) else (CI.j0 k false a2_0 a2_1 a2_2)) else (CI.j0 k false a2_0 a2_1 a2_2))) = some r := H
 have A9 := Aside0.mk A90
 clear A90
 replace H := Option.bind_eq_some_iff.mp H
 obtain ⟨⟨t156, t157⟩, A100, H⟩ := H
 replace H : (if t147 = true then (if t154 = 0 then (if t157 = 0 then (if t153 = t148 then (if t156 = t148 then (if (t155.size : Int) = 10 then ((calendar_Text.f k t149).bind fun t158 => (if ((t155.toList == t158.toList) == (t148 == t149)) = true then ((calendar_Text.f k t149).bind fun t159 => (CI.j0 k ((Op.bytesLess t155.toList t159.toList) == (decide (t148 < t149))) a2_0 a2_1 a2_2)) else (CI.j0 k false a2_0 a2_1 a2_2))) else (CI.j0 k false a2_0 a2_1 a2_2)) else (CI.j0 k false a2_0 a2_1 a2_2)) else (CI.j0 k false a2_0 a2_1 a2_2)) else (CI.j0 k false a2_0 a2_1 a2_2)) else (CI.j0 k false a2_0 a2_1 a2_2)) else (CI.j0 k false a2_0 a2_1 a2_2)) = some r := H
 have A10 := Aside0.mk A100
 clear A100
 have HC11 := Aside0.mk H
 clear H
 go_enter Tryd.func4, Tryd.ntmps4
 go_upto_region 8 with (first | ((with_reducible refine gate_dst (N := 5) rfl ?_); (try (refine gate_guard (by rfl) ?_; dsimp only)); refine box_event ?hg (N := 5) ?hd (cs := #[.int .i64 a2_0, .int .i64 a2_1, .int .i64 a2_2]) (t := 22) ?hr ?_; (case hd => rfl); (case hg => rfl); (case hr => first | (go_simp; done) | (go_simp; rfl)); intro gb146 hg w12 hbox hb; have n0_ := Aside0.mk (below_step (by repeat (first | (with_reducible first | exact HB.out | apply below_alloc | apply pw_below_drewN | apply below_drew1) | exact HB.out)) hb); have n1_ := Aside0.mk (hbox); have n2_ := Aside0.mk ((by rw [hg]; exact (below_size (by repeat (first | (with_reducible first | exact HB.out | apply below_alloc | apply pw_below_drewN | apply below_drew1) | exact HB.out))) : w.heap.size ≤ gb146)); have n3_ := Aside0.mk ((by rw [hg]; exact (below_size (by repeat (first | (with_reducible first | exact HB.out | apply below_alloc | apply pw_below_drewN | apply below_drew1) | exact HB.out))) : w.heap.size ≤ gb146)); clear HB; have HB := n0_; have BK146 := n1_; have GW146 := n2_; have GE146 := n3_; clear n0_ n1_ n2_ n3_; clear hb hbox hg) | ((with_reducible refine gate_callee (f := 9) rfl ?_); refine goesL_ (some 21) rfl rfl Tryd.func9 (by kernel_rfl) rfl #[] rfl (by (try simp only [List.map_toArray, List.map_cons, List.map_nil]); first | done | rfl | (simp only [List.length_drop, List.length_take]; rfl)) ?_; (with_reducible refine (wageofficelaw02_head.calls k  t147 _ A4.out (TabBefore.below hTBefore.out (by repeat (first | exact HB.out | apply below_alloc | apply pw_below_drewN | apply below_drew1 | refine below_set ?_ GE146.out | refine below_set ?_ GE163.out)))).mono ?_); rintro e w13 ⟨rfl, hb⟩; refine ⟨_, rfl, ?_⟩; have n0_ := Aside0.mk (blk_below (g := gb146) (o := .cells #[.int .i64 a2_0, .int .i64 a2_1, .int .i64 a2_2] 22 (0, 0)) (by (with_reducible repeat (first | refine blk_drewN ?_ _ | refine blk_drew ?_ | refine blk_alloc ?_ _)); exact BK146.out) hb); have n1_ := Aside0.mk (below_step (by repeat (first | (with_reducible first | exact HB.out | apply below_alloc | apply pw_below_drewN | apply below_drew1 | refine below_set ?_ GE146.out) | exact HB.out)) hb); clear BK146; clear HB; have BK146 := n0_; have HB := n1_; clear n0_ n1_; (try clear hb); (try clear hb2); (try clear hk); (try clear hi)) | ((with_reducible refine gate_callee (f := 10) rfl ?_); refine goesL_ (some 23) rfl rfl Tryd.func10 (by kernel_rfl) rfl #[.int .i64 a0, .int .i64 36525] rfl (by (try simp only [List.map_toArray, List.map_cons, List.map_nil]); first | done | rfl | (simp only [List.length_drop, List.length_take]; rfl)) ?_; (with_reducible refine (wageofficelaw02_pick.calls a0 36525 t148 _ A5.out).mono ?_); rintro e w' ⟨rfl, ⟨nd, rfl⟩⟩; refine ⟨_, rfl, ?_⟩) | ((with_reducible refine gate_callee (f := 10) rfl ?_); refine goesL_ (some 25) rfl rfl Tryd.func10 (by kernel_rfl) rfl #[.int .i64 a1, .int .i64 36525] rfl (by (try simp only [List.map_toArray, List.map_cons, List.map_nil]); first | done | rfl | (simp only [List.length_drop, List.length_take]; rfl)) ?_; (with_reducible refine (wageofficelaw02_pick.calls a1 36525 t149 _ A6.out).mono ?_); rintro e w' ⟨rfl, ⟨nd, rfl⟩⟩; refine ⟨_, rfl, ?_⟩) | ((with_reducible refine gate_callee (f := 11) rfl ?_); refine goesL_ (some 28) rfl rfl Tryd.func11 (by kernel_rfl) rfl #[.int .i64 t148] rfl (by (try simp only [List.map_toArray, List.map_cons, List.map_nil]); first | done | rfl | (simp only [List.length_drop, List.length_take]; rfl)) ?_; (with_reducible refine (calendar_Date.calls t148 t150 t151 t152 _ A7.out (TabBefore.below hTBefore.out (by repeat (first | exact HB.out | apply below_alloc | apply pw_below_drewN | apply below_drew1 | refine below_set ?_ GE146.out | refine below_set ?_ GE163.out)))).mono ?_); rintro e w14 ⟨rfl, hb⟩; refine ⟨_, rfl, ?_⟩; have n0_ := Aside0.mk (blk_below (g := gb146) (o := .cells #[.int .i64 a2_0, .int .i64 a2_1, .int .i64 a2_2] 22 (0, 0)) (by (with_reducible repeat (first | refine blk_drewN ?_ _ | refine blk_drew ?_ | refine blk_alloc ?_ _)); exact BK146.out) hb); have n1_ := Aside0.mk (below_step (by repeat (first | (with_reducible first | exact HB.out | apply below_alloc | apply pw_below_drewN | apply below_drew1 | refine below_set ?_ GE146.out) | exact HB.out)) hb); clear BK146; clear HB; have BK146 := n0_; have HB := n1_; clear n0_ n1_; (try clear hb); (try clear hb2); (try clear hk); (try clear hi)) | ((with_reducible refine gate_callee (f := 25) rfl ?_); refine goesL_ (some 36) rfl rfl Tryd.func25 (by kernel_rfl) rfl #[.int .i64 t150, .int .i64 t151, .int .i64 t152] rfl (by (try simp only [List.map_toArray, List.map_cons, List.map_nil]); first | done | rfl | (simp only [List.length_drop, List.length_take]; rfl)) ?_; (with_reducible refine (calendar_Day.calls t150 t151 t152 t153 t154 _ A8.out (TabBefore.below hTBefore.out (by repeat (first | exact HB.out | apply below_alloc | apply pw_below_drewN | apply below_drew1 | refine below_set ?_ GE146.out | refine below_set ?_ GE163.out)))).mono ?_); rintro e w15 ⟨rfl, hb⟩; refine ⟨_, rfl, ?_⟩; have n0_ := Aside0.mk (blk_below (g := gb146) (o := .cells #[.int .i64 a2_0, .int .i64 a2_1, .int .i64 a2_2] 22 (0, 0)) (by (with_reducible repeat (first | refine blk_drewN ?_ _ | refine blk_drew ?_ | refine blk_alloc ?_ _)); exact BK146.out) hb); have n1_ := Aside0.mk (below_step (by repeat (first | (with_reducible first | exact HB.out | apply below_alloc | apply pw_below_drewN | apply below_drew1 | refine below_set ?_ GE146.out) | exact HB.out)) hb); clear BK146; clear HB; have BK146 := n0_; have HB := n1_; clear n0_ n1_; (try clear hb); (try clear hb2); (try clear hk); (try clear hi)) | ((with_reducible refine gate_callee (f := 19) rfl ?_); refine goesL_ (some 40) rfl rfl Tryd.func19 (by kernel_rfl) rfl #[.int .i64 t148] rfl (by (try simp only [List.map_toArray, List.map_cons, List.map_nil]); first | done | rfl | (simp only [List.length_drop, List.length_take]; rfl)) ?_; (with_reducible refine (calendar_Text.calls k t148 t155 _ A9.out (TabBefore.below hTBefore.out (by repeat (first | exact HB.out | apply below_alloc | apply pw_below_drewN | apply below_drew1 | refine below_set ?_ GE146.out | refine below_set ?_ GE163.out)))).mono ?_); rintro e w16 ⟨rfl, hb⟩; refine ⟨_, rfl, ?_⟩; have n0_ := Aside0.mk (blk_below (g := gb146) (o := .cells #[.int .i64 a2_0, .int .i64 a2_1, .int .i64 a2_2] 22 (0, 0)) (by (with_reducible repeat (first | refine blk_drewN ?_ _ | refine blk_drew ?_ | refine blk_alloc ?_ _)); exact BK146.out) hb); have n1_ := Aside0.mk (below_step (by repeat (first | (with_reducible first | exact HB.out | apply below_alloc | apply pw_below_drewN | apply below_drew1 | refine below_set ?_ GE146.out) | exact HB.out)) hb); clear BK146; clear HB; have BK146 := n0_; have HB := n1_; clear n0_ n1_; (try clear hb); (try clear hb2); (try clear hk); (try clear hi)) | ((with_reducible refine gate_callee (f := 27) rfl ?_); refine goesL_ (some 43) rfl rfl Tryd.func27 (by kernel_rfl) rfl #[.string t155] rfl (by (try simp only [List.map_toArray, List.map_cons, List.map_nil]); first | done | rfl | (simp only [List.length_drop, List.length_take]; rfl)) ?_; (with_reducible refine (calendar_Parse.calls t155 t156 t157 _ A10.out (TabBefore.below hTBefore.out (by repeat (first | exact HB.out | apply below_alloc | apply pw_below_drewN | apply below_drew1 | refine below_set ?_ GE146.out | refine below_set ?_ GE163.out)))).mono ?_); rintro e w17 ⟨rfl, hb⟩; refine ⟨_, rfl, ?_⟩; have n0_ := Aside0.mk (blk_below (g := gb146) (o := .cells #[.int .i64 a2_0, .int .i64 a2_1, .int .i64 a2_2] 22 (0, 0)) (by (with_reducible repeat (first | refine blk_drewN ?_ _ | refine blk_drew ?_ | refine blk_alloc ?_ _)); exact BK146.out) hb); have n1_ := Aside0.mk (below_step (by repeat (first | (with_reducible first | exact HB.out | apply below_alloc | apply pw_below_drewN | apply below_drew1 | refine below_set ?_ GE146.out) | exact HB.out)) hb); clear BK146; clear HB; have BK146 := n0_; have HB := n1_; clear n0_ n1_; (try clear hb); (try clear hb2); (try clear hk); (try clear hi)))
 (try simp only [Act.put, setIfInBounds_toArray, set_cons_zero, set_cons_succ])
 go_cut [7] (fun v7 wc => ∃ (kq : Nat) (x7_10 : Bool), v7 = .bool x7_10 ∧ Aside0 (CI.j0 kq x7_10 a2_0 a2_1 a2_2 = some r) ∧ Aside0 (kq ≤ k) ∧ Aside0 (wc.heap[gb146]? = some (.cells #[.int .i64 a2_0, .int .i64 a2_1, .int .i64 a2_2] 22 (0, 0))) ∧ Aside0 (Below w.heap.size w wc))
 case first =>
  have H := HC11.out
  clear HC11
  by_cases c18 : t147 = true
  ·subst c18
   have H1 : (if t154 = 0 then (if t157 = 0 then (if t153 = t148 then (if t156 = t148 then (if (t155.size : Int) = 10 then ((calendar_Text.f k t149).bind fun t158 => (if ((t155.toList == t158.toList) == (t148 == t149)) = true then ((calendar_Text.f k t149).bind fun t159 => (CI.j0 k ((Op.bytesLess t155.toList t159.toList) == (decide (t148 < t149))) a2_0 a2_1 a2_2)) else (CI.j0 k false a2_0 a2_1 a2_2))) else (CI.j0 k false a2_0 a2_1 a2_2)) else (CI.j0 k false a2_0 a2_1 a2_2)) else (CI.j0 k false a2_0 a2_1 a2_2)) else (CI.j0 k false a2_0 a2_1 a2_2)) else (CI.j0 k false a2_0 a2_1 a2_2)) = some r := by rw [if_pos rfl] at H; exact H
   clear H
   have H := H1
   clear H1
   by_cases c19 : t154 = 0
   ·rw [if_pos c19] at H
    have c19b0 : (t154 == 0) = true := beq_iff_eq.mpr c19
    have c19b1 : (t154 != 0) = false := bne_eq_false_iff_eq.mpr c19
    clear c19
    (first | rw [c19b0] | (simp only [i64_w, i32_w]; rw [c19b0]) | skip)
    by_cases c20 : t157 = 0
    ·rw [if_pos c20] at H
     have c20b0 : (t157 == 0) = true := beq_iff_eq.mpr c20
     have c20b1 : (t157 != 0) = false := bne_eq_false_iff_eq.mpr c20
     clear c20
     by_cases c21 : t153 = t148
     ·rw [if_pos c21] at H
      have c21b0 : (t153 == t148) = true := beq_iff_eq.mpr c21
      have c21b1 : (t153 != t148) = false := bne_eq_false_iff_eq.mpr c21
      clear c21
      by_cases c22 : t156 = t148
      ·rw [if_pos c22] at H
       have c22b0 : (t156 == t148) = true := beq_iff_eq.mpr c22
       have c22b1 : (t156 != t148) = false := bne_eq_false_iff_eq.mpr c22
       clear c22
       by_cases c23 : (t155.size : Int) = 10
       ·rw [if_pos c23] at H
        have c23b0 : ((t155.size : Int) == 10) = true := beq_iff_eq.mpr c23
        have c23b1 : ((t155.size : Int) != 10) = false := bne_eq_false_iff_eq.mpr c23
        clear c23
        replace H := Option.bind_eq_some_iff.mp H
        obtain ⟨t158, A240, H⟩ := H
        replace H : (if ((t155.toList == t158.toList) == (t148 == t149)) = true then ((calendar_Text.f k t149).bind fun t159 => (CI.j0 k ((Op.bytesLess t155.toList t159.toList) == (decide (t148 < t149))) a2_0 a2_1 a2_2)) else (CI.j0 k false a2_0 a2_1 a2_2)) = some r := H
        have A24 := Aside0.mk A240
        clear A240
        by_cases c25 : ((t155.toList == t158.toList) == (t148 == t149)) = true
        ·rw [if_pos c25] at H
         have c25b0 : ((t155.toList == t158.toList) == (t148 == t149)) = true := c25
         (try (have c25b1 : decide ((t155.toList == t158.toList) = (t148 == t149)) = true := by simpa using c25))
         (try (have c25b2 : ((t155.toList == t158.toList) == (t148 == t149)) = true := by simpa using c25))
         clear c25
         replace H := Option.bind_eq_some_iff.mp H
         obtain ⟨t159, A260, H⟩ := H
         replace H : (CI.j0 k ((Op.bytesLess t155.toList t159.toList) == (decide (t148 < t149))) a2_0 a2_1 a2_2) = some r := H
         have A26 := Aside0.mk A260
         clear A260
         obtain rfl : t158 = t159 := Option.some.inj (A24.out.symm.trans A26.out)
         have H' := Aside0.mk H
         clear H
         go_wp2_with (first | (go_at_call 19; (with_reducible refine (calendar_Text.calls k t149 t158 _ A24.out (TabBefore.below hTBefore.out (by repeat (first | exact HB.out | apply below_alloc | apply pw_below_drewN | apply below_drew1 | refine below_set ?_ GE146.out | refine below_set ?_ GE163.out)))).mono ?_); rintro e w27 ⟨rfl, hb⟩; have n0_ := Aside0.mk (blk_below (g := gb146) (o := .cells #[.int .i64 a2_0, .int .i64 a2_1, .int .i64 a2_2] 22 (0, 0)) (by (with_reducible repeat (first | refine blk_drewN ?_ _ | refine blk_drew ?_ | refine blk_alloc ?_ _)); exact BK146.out) hb); have n1_ := Aside0.mk (below_step (by repeat (first | (with_reducible first | exact HB.out | apply below_alloc | apply pw_below_drewN | apply below_drew1 | refine below_set ?_ GE146.out) | exact HB.out)) hb); clear BK146; clear HB; have BK146 := n0_; have HB := n1_; clear n0_ n1_; (try clear hb); (try clear hb2); (try clear hk); (try clear hi)) | (go_at_call 19; (with_reducible refine (calendar_Text.calls k t149 t158 _ A26.out (TabBefore.below hTBefore.out (by repeat (first | exact HB.out | apply below_alloc | apply pw_below_drewN | apply below_drew1 | refine below_set ?_ GE146.out | refine below_set ?_ GE163.out)))).mono ?_); rintro e w28 ⟨rfl, hb⟩; have n0_ := Aside0.mk (blk_below (g := gb146) (o := .cells #[.int .i64 a2_0, .int .i64 a2_1, .int .i64 a2_2] 22 (0, 0)) (by (with_reducible repeat (first | refine blk_drewN ?_ _ | refine blk_drew ?_ | refine blk_alloc ?_ _)); exact BK146.out) hb); have n1_ := Aside0.mk (below_step (by repeat (first | (with_reducible first | exact HB.out | apply below_alloc | apply pw_below_drewN | apply below_drew1 | refine below_set ?_ GE146.out) | exact HB.out)) hb); clear BK146; clear HB; have BK146 := n0_; have HB := n1_; clear n0_ n1_; (try clear hb); (try clear hb2); (try clear hk); (try clear hi)))
         go_meet
         case rel => exact ⟨_, (((Op.bytesLess t155.toList t158.toList) == (decide (t148 < t149)))), (by first | rfl | (simp; done) | (simp [*]; done)), H', ⟨by first | omega | exact Nat.le_refl _⟩, ⟨by (with_reducible repeat (first | refine blk_drewN ?_ _ | refine blk_drew ?_ | refine blk_alloc ?_ _)); exact BK146.out⟩, ⟨by repeat (first | (with_reducible first | exact HB.out | apply below_alloc | apply pw_below_drewN | apply below_drew1 | refine below_set ?_ GE146.out) | exact HB.out)⟩⟩
        ·rw [if_neg c25] at H
         have c25b0 : ((t155.toList == t158.toList) == (t148 == t149)) = false := by simpa using c25
         (try (have c25b1 : decide ((t155.toList == t158.toList) = (t148 == t149)) = false := by simpa using c25))
         (try (have c25b2 : ((t155.toList == t158.toList) == (t148 == t149)) = false := by simpa using c25))
         (try (have c25b3 : ¬ ((t155.toList == t158.toList) = (t148 == t149)) := by simpa using c25))
         clear c25
         have H' := Aside0.mk H
         clear H
         go_wp2_with (first | (go_at_call 19; (with_reducible refine (calendar_Text.calls k t149 t158 _ A24.out (TabBefore.below hTBefore.out (by repeat (first | exact HB.out | apply below_alloc | apply pw_below_drewN | apply below_drew1 | refine below_set ?_ GE146.out | refine below_set ?_ GE163.out)))).mono ?_); rintro e w29 ⟨rfl, hb⟩; have n0_ := Aside0.mk (blk_below (g := gb146) (o := .cells #[.int .i64 a2_0, .int .i64 a2_1, .int .i64 a2_2] 22 (0, 0)) (by (with_reducible repeat (first | refine blk_drewN ?_ _ | refine blk_drew ?_ | refine blk_alloc ?_ _)); exact BK146.out) hb); have n1_ := Aside0.mk (below_step (by repeat (first | (with_reducible first | exact HB.out | apply below_alloc | apply pw_below_drewN | apply below_drew1 | refine below_set ?_ GE146.out) | exact HB.out)) hb); clear BK146; clear HB; have BK146 := n0_; have HB := n1_; clear n0_ n1_; (try clear hb); (try clear hb2); (try clear hk); (try clear hi)))
         go_meet
         case rel => exact ⟨_, (false), (by first | rfl | (simp; done) | (simp [*]; done)), H', ⟨by first | omega | exact Nat.le_refl _⟩, ⟨by (with_reducible repeat (first | refine blk_drewN ?_ _ | refine blk_drew ?_ | refine blk_alloc ?_ _)); exact BK146.out⟩, ⟨by repeat (first | (with_reducible first | exact HB.out | apply below_alloc | apply pw_below_drewN | apply below_drew1 | refine below_set ?_ GE146.out) | exact HB.out)⟩⟩
       ·rw [if_neg c23] at H
        have c23b0 : ((t155.size : Int) == 10) = false := beq_eq_false_iff_ne.mpr c23
        have c23b1 : ((t155.size : Int) != 10) = true := bne_iff_ne.mpr c23
        have H' := Aside0.mk H
        clear H
        go_wp2
        go_meet
        case rel => exact ⟨_, (false), (by first | rfl | (simp; done) | (simp [*]; done)), H', ⟨by first | omega | exact Nat.le_refl _⟩, ⟨by (with_reducible repeat (first | refine blk_drewN ?_ _ | refine blk_drew ?_ | refine blk_alloc ?_ _)); exact BK146.out⟩, ⟨by repeat (first | (with_reducible first | exact HB.out | apply below_alloc | apply pw_below_drewN | apply below_drew1 | refine below_set ?_ GE146.out) | exact HB.out)⟩⟩
      ·rw [if_neg c22] at H
       have c22b0 : (t156 == t148) = false := beq_eq_false_iff_ne.mpr c22
       have c22b1 : (t156 != t148) = true := bne_iff_ne.mpr c22
       have H' := Aside0.mk H
       clear H
       go_wp2
       go_meet
       case rel => exact ⟨_, (false), (by first | rfl | (simp; done) | (simp [*]; done)), H', ⟨by first | omega | exact Nat.le_refl _⟩, ⟨by (with_reducible repeat (first | refine blk_drewN ?_ _ | refine blk_drew ?_ | refine blk_alloc ?_ _)); exact BK146.out⟩, ⟨by repeat (first | (with_reducible first | exact HB.out | apply below_alloc | apply pw_below_drewN | apply below_drew1 | refine below_set ?_ GE146.out) | exact HB.out)⟩⟩
     ·rw [if_neg c21] at H
      have c21b0 : (t153 == t148) = false := beq_eq_false_iff_ne.mpr c21
      have c21b1 : (t153 != t148) = true := bne_iff_ne.mpr c21
      have H' := Aside0.mk H
      clear H
      go_wp2
      go_meet
      case rel => exact ⟨_, (false), (by first | rfl | (simp; done) | (simp [*]; done)), H', ⟨by first | omega | exact Nat.le_refl _⟩, ⟨by (with_reducible repeat (first | refine blk_drewN ?_ _ | refine blk_drew ?_ | refine blk_alloc ?_ _)); exact BK146.out⟩, ⟨by repeat (first | (with_reducible first | exact HB.out | apply below_alloc | apply pw_below_drewN | apply below_drew1 | refine below_set ?_ GE146.out) | exact HB.out)⟩⟩
    ·rw [if_neg c20] at H
     have c20b0 : (t157 == 0) = false := beq_eq_false_iff_ne.mpr c20
     have c20b1 : (t157 != 0) = true := bne_iff_ne.mpr c20
     have H' := Aside0.mk H
     clear H
     go_wp2
     go_meet
     case rel => exact ⟨_, (false), (by first | rfl | (simp; done) | (simp [*]; done)), H', ⟨by first | omega | exact Nat.le_refl _⟩, ⟨by (with_reducible repeat (first | refine blk_drewN ?_ _ | refine blk_drew ?_ | refine blk_alloc ?_ _)); exact BK146.out⟩, ⟨by repeat (first | (with_reducible first | exact HB.out | apply below_alloc | apply pw_below_drewN | apply below_drew1 | refine below_set ?_ GE146.out) | exact HB.out)⟩⟩
   ·rw [if_neg c19] at H
    have c19b0 : (t154 == 0) = false := beq_eq_false_iff_ne.mpr c19
    have c19b1 : (t154 != 0) = true := bne_iff_ne.mpr c19
    (first | rw [c19b0] | (simp only [i64_w, i32_w]; rw [c19b0]) | skip)
    have H' := Aside0.mk H
    clear H
    go_wp2
    go_meet
    case rel => exact ⟨_, (false), (by first | rfl | (simp; done) | (simp [*]; done)), H', ⟨by first | omega | exact Nat.le_refl _⟩, ⟨by (with_reducible repeat (first | refine blk_drewN ?_ _ | refine blk_drew ?_ | refine blk_alloc ?_ _)); exact BK146.out⟩, ⟨by repeat (first | (with_reducible first | exact HB.out | apply below_alloc | apply pw_below_drewN | apply below_drew1 | refine below_set ?_ GE146.out) | exact HB.out)⟩⟩
  ·replace c18 := Bool.eq_false_iff.mpr c18
   subst c18
   have H1 : (CI.j0 k false a2_0 a2_1 a2_2) = some r := by rw [if_neg (show ¬ (false = true) by decide)] at H; exact H
   clear H
   have H := H1
   clear H1
   have H' := Aside0.mk H
   clear H
   go_wp2
   go_meet
   case rel => exact ⟨_, (false), (by first | rfl | (simp; done) | (simp [*]; done)), H', ⟨by first | omega | exact Nat.le_refl _⟩, ⟨by (with_reducible repeat (first | refine blk_drewN ?_ _ | refine blk_drew ?_ | refine blk_alloc ?_ _)); exact BK146.out⟩, ⟨by repeat (first | (with_reducible first | exact HB.out | apply below_alloc | apply pw_below_drewN | apply below_drew1 | refine below_set ?_ GE146.out) | exact HB.out)⟩⟩
 case rest =>
  clear HC11
  try clear c1
  try clear c2
  try clear p2
  try clear c4
  try clear c9
  try clear c10
  try clear c11
  try clear c18
  try clear c19
  try clear c19b0
  try clear c19b1
  try clear c20
  try clear c20b0
  try clear c20b1
  try clear c21
  try clear c21b0
  try clear c21b1
  try clear c22
  try clear c22b0
  try clear c22b1
  try clear c23
  try clear c23b0
  try clear c23b1
  try clear c25
  try clear c25b0
  try clear c25b1
  try clear c25b2
  try clear c27
  obtain ⟨kq, x7_10, rfl, HA, HJ10, BK146, HB⟩ := hcut
  cases kq with
  | zero => exact absurd HA.out (by simp [CI.j0])
  | succ kj10 =>
   have H := HA.out
   clear HA
   simp only [CI.j0] at H
   replace H := Option.bind_eq_some_iff.mp H
   obtain ⟨t160, A300, H⟩ := H
   replace H : ((wageofficelaw02_pick.f a2_1 14).bind fun t161 => ((wageofficelaw02_pick.f a2_2 33).bind fun t162 => ((calendar_Day.f (wrap64 (1999 + t160)) t161 t162).bind fun bt164 => (if bt164.2 = 0 then ((calendar_Date.f bt164.1).bind fun bt166 => (if x7_10 = true then (if bt166.1 = (wrap64 (1999 + t160)) then (if bt166.2.1 = t161 then (some (bt166.2.2 == t162)) else (some false)) else (some false)) else (some false))) else (if x7_10 = true then (if bt164.2 = 21 then (some (bt164.1 == 0)) else (some false)) else (some false)))))) = some r := H
   have A30 := Aside0.mk A300
   clear A300
   replace H := Option.bind_eq_some_iff.mp H
   obtain ⟨t161, A310, H⟩ := H
   replace H : ((wageofficelaw02_pick.f a2_2 33).bind fun t162 => ((calendar_Day.f (wrap64 (1999 + t160)) t161 t162).bind fun bt164 => (if bt164.2 = 0 then ((calendar_Date.f bt164.1).bind fun bt166 => (if x7_10 = true then (if bt166.1 = (wrap64 (1999 + t160)) then (if bt166.2.1 = t161 then (some (bt166.2.2 == t162)) else (some false)) else (some false)) else (some false))) else (if x7_10 = true then (if bt164.2 = 21 then (some (bt164.1 == 0)) else (some false)) else (some false))))) = some r := H
   have A31 := Aside0.mk A310
   clear A310
   replace H := Option.bind_eq_some_iff.mp H
   obtain ⟨t162, A320, H⟩ := H
   replace H : ((calendar_Day.f (wrap64 (1999 + t160)) t161 t162).bind fun bt164 => (if bt164.2 = 0 then ((calendar_Date.f bt164.1).bind fun bt166 => (if x7_10 = true then (if bt166.1 = (wrap64 (1999 + t160)) then (if bt166.2.1 = t161 then (some (bt166.2.2 == t162)) else (some false)) else (some false)) else (some false))) else (if x7_10 = true then (if bt164.2 = 21 then (some (bt164.1 == 0)) else (some false)) else (some false)))) = some r := H
   have A32 := Aside0.mk A320
   clear A320
   replace H := Option.bind_eq_some_iff.mp H
   obtain ⟨⟨t164, t165⟩, A330, H⟩ := H
   replace H : (if t165 = 0 then ((calendar_Date.f t164).bind fun bt166 => (if x7_10 = true then (if bt166.1 = (wrap64 (1999 + t160)) then (if bt166.2.1 = t161 then (some (bt166.2.2 == t162)) else (some false)) else (some false)) else (some false))) else (if x7_10 = true then (if t165 = 21 then (some (t164 == 0)) else (some false)) else (some false))) = some r := H
   have A33 := Aside0.mk A330
   clear A330
   by_cases c34 : t165 = 0
   ·rw [if_pos c34] at H
    have c34b0 : (t165 == 0) = true := beq_iff_eq.mpr c34
    have c34b1 : (t165 != 0) = false := bne_eq_false_iff_eq.mpr c34
    clear c34
    replace H := Option.bind_eq_some_iff.mp H
    obtain ⟨⟨t166, t167, t168⟩, A350, H⟩ := H
    replace H : (if x7_10 = true then (if t166 = (wrap64 (1999 + t160)) then (if t167 = t161 then (some (t168 == t162)) else (some false)) else (some false)) else (some false)) = some r := H
    have A35 := Aside0.mk A350
    clear A350
    by_cases c36 : x7_10 = true
    ·subst c36
     have H1 : (if t166 = (wrap64 (1999 + t160)) then (if t167 = t161 then (some (t168 == t162)) else (some false)) else (some false)) = some r := by rw [if_pos rfl] at H; exact H
     clear H
     have H := H1
     clear H1
     by_cases c37 : t166 = (wrap64 (1999 + t160))
     ·rw [if_pos c37] at H
      have c37b0 : (t166 == (wrap64 (1999 + t160))) = true := beq_iff_eq.mpr c37
      have c37b1 : (t166 != (wrap64 (1999 + t160))) = false := bne_eq_false_iff_eq.mpr c37
      clear c37
      by_cases c38 : t167 = t161
      ·rw [if_pos c38] at H
       have c38b0 : (t167 == t161) = true := beq_iff_eq.mpr c38
       have c38b1 : (t167 != t161) = false := bne_eq_false_iff_eq.mpr c38
       clear c38
       obtain rfl := Option.some.inj H
       try go_wp2
       have n0_ := Aside0.mk (blk_drew BK146.out)
       have n1_ := Aside0.mk (below_drew1 HB.out)
       clear BK146
       clear HB
       have BK146 := n0_
       have HB := n1_
       clear n0_ n1_
       refine start_ (n := 13) (S := fun w' => w'.cell? ⟨gb146, 0, none⟩ = some (.int .i64 a2_0) ∧ w'.cell? ⟨gb146, 1, none⟩ = some (.int .i64 a2_1) ∧ w'.cell? ⟨gb146, 2, none⟩ = some (.int .i64 a2_2)) (ds := []) #[false, false, false, false, false, false, false, false, false, false, false, false, false] (by kernel_rfl) rfl rfl ⟨(blk_cell BK146.out 0).trans rfl, (blk_cell BK146.out 1).trans rfl, (blk_cell BK146.out 2).trans rfl⟩ (fun hHeld => ?_); refine with_tabW CI.tab9 CI.bits9 (fun HT_ HW_ => ?_)
       generalize wc.drew = w39 at BK146 HB hHeld ⊢
       refine pure_ (i := 0) (N := some 90) (v := ?_) (a' := ?_) #[true, false, false, false, false, false, false, false, false, false, false, false, false] rfl rfl (any_of HT_.out (by kernel_rfl)) (fun _ _ _ h => h) (Or.inl ⟨by rfl, ?_⟩) ?_ ?_
       rotate_left
       ·intro w'
        go_simp
        with_reducible rfl
       rotate_left
       ·simp only [Act.put, setIfInBounds_toArray, set_cons_zero, set_cons_succ, i64_w, i32_w]
        rfl
       refine pure_ (i := 4) (N := some 94) (v := ?_) (a' := ?_) #[true, false, false, false, true, false, false, false, false, false, false, false, false] rfl rfl (any_of HT_.out (by kernel_rfl)) (fun _ _ _ h => h) (Or.inl ⟨by rfl, ?_⟩) ?_ ?_
       rotate_left
       ·intro w'
        go_simp
        with_reducible rfl
       rotate_left
       ·simp only [Act.put, setIfInBounds_toArray, set_cons_zero, set_cons_succ, i64_w, i32_w]
        rfl
       refine pure_ (i := 7) (N := some 97) (v := ?_) (a' := ?_) #[true, false, false, false, true, false, false, true, false, false, false, false, false] rfl rfl (any_of HT_.out (by kernel_rfl)) (fun _ _ _ h => h) (Or.inl ⟨by rfl, ?_⟩) ?_ ?_
       rotate_left
       ·intro w'
        go_simp
        with_reducible rfl
       rotate_left
       ·simp only [Act.put, setIfInBounds_toArray, set_cons_zero, set_cons_succ, i64_w, i32_w]
        rfl
       refine take_ (i := 1) (N := some 91) (v := ?_) (a' := ?_) #[true, true, false, false, true, false, false, true, false, false, false, false, false] rfl rfl (take_ofW HT_.out HW_.out (by kernel_rfl)) (fun _ _ _ h => h) (Or.inl ⟨by rfl, ?_⟩) hHeld ?_ ?_
       rotate_left
       ·rintro w' ⟨s0, s1, s2⟩
        go_simp
        with_reducible rfl
       rotate_left
       ·simp only [Act.put, setIfInBounds_toArray, set_cons_zero, set_cons_succ, i64_w, i32_w]
        rfl
       refine take_ (i := 5) (N := some 95) (v := ?_) (a' := ?_) #[true, true, false, false, true, true, false, true, false, false, false, false, false] rfl rfl (take_ofW HT_.out HW_.out (by kernel_rfl)) (fun _ _ _ h => h) (Or.inl ⟨by rfl, ?_⟩) hHeld ?_ ?_
       rotate_left
       ·rintro w' ⟨s0, s1, s2⟩
        go_simp
        with_reducible rfl
       rotate_left
       ·simp only [Act.put, setIfInBounds_toArray, set_cons_zero, set_cons_succ, i64_w, i32_w]
        rfl
       refine take_ (i := 8) (N := some 98) (v := ?_) (a' := ?_) #[true, true, false, false, true, true, false, true, true, false, false, false, false] rfl rfl (take_ofW HT_.out HW_.out (by kernel_rfl)) (fun _ _ _ h => h) (Or.inl ⟨by rfl, ?_⟩) hHeld ?_ ?_
       rotate_left
       ·rintro w' ⟨s0, s1, s2⟩
        go_simp
        with_reducible rfl
       rotate_left
       ·simp only [Act.put, setIfInBounds_toArray, set_cons_zero, set_cons_succ, i64_w, i32_w]
        rfl
       refine join_ (σ := Nat) 1 #[true, true, true, true, true, true, true, true, true, true, true, true, false] (fun s_ => [(92, .int .i64 t160), (96, .int .i64 t161), (99, .int .i64 t162), (18, .pointer (some ⟨s_, 0, none⟩)), (93, .int .i64 (wrap64 (1999 + t160))), (100, .agg #[.int .i64 (wrap64 (1999 + t160)), .int .i64 t161, .int .i64 t162])]) (fun s_ w' => (w'.cell? ⟨gb146, 0, none⟩ = some (.int .i64 a2_0) ∧ w'.cell? ⟨gb146, 1, none⟩ = some (.int .i64 a2_1) ∧ w'.cell? ⟨gb146, 2, none⟩ = some (.int .i64 a2_2)) ∧ (w'.heap[gb146]? = some (.cells #[.int .i64 a2_0, .int .i64 a2_1, .int .i64 a2_2] 22 (0, 0))) ∧ (w'.heap[s_]? = some (.cells #[.int .i64 0, .int .i64 0, .int .i64 0] 22 (0, 0))) ∧ (w.heap.size ≤ s_) ∧ (w.heap.size ≤ s_) ∧ (gb146 ≠ s_) ∧ (s_ ≠ gb146) ∧ (Below w.heap.size w w')) ?_ ?_
       rotate_left
       ·intro hCont
        refine two_ (i := 2) (j := 11) (Ni := some 92) (Nj := some 18) #[true, true, true, false, true, true, false, true, true, false, false, false, false] #[true, true, false, false, true, true, false, true, true, false, false, true, false] rfl rfl rfl rfl (two_of HT_.out (by kernel_rfl)) (by decide) (by decide) (fun K hK => ?_) (fun K hK => ?_)
        ·skip
         refine goes_ Tryd.func10 (by kernel_rfl) rfl #[.int .i64 a2_0, .int .i64 102] (by rfl) rfl rfl (by (try simp only [List.map_toArray, List.map_cons, List.map_nil]); first | done | rfl | (simp only [List.length_drop, List.length_take]; rfl)) ?_
         with_reducible refine (wageofficelaw02_pick.calls a2_0 102 t160 _ A30.out).mono ?_
         rintro e w' ⟨rfl, ⟨nd, rfl⟩⟩
         refine ⟨_, rfl, ?_⟩
         refine hK.out _ _ ⟨(blk_cell BK146.out 0).trans rfl, (blk_cell BK146.out 1).trans rfl, (blk_cell BK146.out 2).trans rfl⟩ (fun hHeld => ?_)
         clear hK K
         refine norm_ (a' := ?_) ?_ ?_
         rotate_left
         ·show Act.put _ (some 92) _ = _
          simp only [Act.put, setIfInBounds_toArray, set_cons_zero, set_cons_succ, i64_w, i32_w]
          rfl
         refine pure_ (i := 3) (N := some 93) (v := ?_) (a' := ?_) #[true, true, true, true, true, true, false, true, true, false, false, false, false] rfl rfl (any_of HT_.out (by kernel_rfl)) (fun _ _ _ h => h) (Or.inl ⟨by rfl, ?_⟩) ?_ ?_
         rotate_left
         ·intro w'
          go_simp
          with_reducible rfl
         rotate_left
         ·simp only [Act.put, setIfInBounds_toArray, set_cons_zero, set_cons_succ, i64_w, i32_w]
          rfl
         refine two_ (i := 6) (j := 11) (Ni := some 96) (Nj := some 18) #[true, true, true, true, true, true, true, true, true, false, false, false, false] #[true, true, true, true, true, true, false, true, true, false, false, true, false] rfl rfl rfl rfl (two_of HT_.out (by kernel_rfl)) (by decide) (by decide) (fun K hK => ?_) (fun K hK => ?_)
         ·skip
          refine goes_ Tryd.func10 (by kernel_rfl) rfl #[.int .i64 a2_1, .int .i64 14] (by rfl) rfl rfl (by (try simp only [List.map_toArray, List.map_cons, List.map_nil]); first | done | rfl | (simp only [List.length_drop, List.length_take]; rfl)) ?_
          with_reducible refine (wageofficelaw02_pick.calls a2_1 14 t161 _ A31.out).mono ?_
          rintro e w' ⟨rfl, ⟨nd, rfl⟩⟩
          refine ⟨_, rfl, ?_⟩
          refine hK.out _ _ ⟨(blk_cell BK146.out 0).trans rfl, (blk_cell BK146.out 1).trans rfl, (blk_cell BK146.out 2).trans rfl⟩ (fun hHeld => ?_)
          clear hK K
          refine norm_ (a' := ?_) ?_ ?_
          rotate_left
          ·show Act.put _ (some 96) _ = _
           simp only [Act.put, setIfInBounds_toArray, set_cons_zero, set_cons_succ, i64_w, i32_w]
           rfl
          refine two_ (i := 9) (j := 11) (Ni := some 99) (Nj := some 18) #[true, true, true, true, true, true, true, true, true, true, false, false, false] #[true, true, true, true, true, true, true, true, true, false, false, true, false] rfl rfl rfl rfl (two_of HT_.out (by kernel_rfl)) (by decide) (by decide) (fun K hK => ?_) (fun K hK => ?_)
          ·skip
           refine goes_ Tryd.func10 (by kernel_rfl) rfl #[.int .i64 a2_2, .int .i64 33] (by rfl) rfl rfl (by (try simp only [List.map_toArray, List.map_cons, List.map_nil]); first | done | rfl | (simp only [List.length_drop, List.length_take]; rfl)) ?_
           with_reducible refine (wageofficelaw02_pick.calls a2_2 33 t162 _ A32.out).mono ?_
           rintro e w' ⟨rfl, ⟨nd, rfl⟩⟩
           refine ⟨_, rfl, ?_⟩
           refine hK.out _ _ ⟨(blk_cell BK146.out 0).trans rfl, (blk_cell BK146.out 1).trans rfl, (blk_cell BK146.out 2).trans rfl⟩ (fun hHeld => ?_)
           clear hK K
           refine norm_ (a' := ?_) ?_ ?_
           rotate_left
           ·show Act.put _ (some 99) _ = _
            simp only [Act.put, setIfInBounds_toArray, set_cons_zero, set_cons_succ, i64_w, i32_w]
            rfl
           refine pure_ (i := 10) (N := some 100) (v := ?_) (a' := ?_) #[true, true, true, true, true, true, true, true, true, true, true, false, false] rfl rfl (any_of HT_.out (by kernel_rfl)) (fun _ _ _ h => h) (Or.inl ⟨by rfl, ?_⟩) ?_ ?_
           rotate_left
           ·intro w'
            go_simp
            with_reducible rfl
           rotate_left
           ·simp only [Act.put, setIfInBounds_toArray, set_cons_zero, set_cons_succ, i64_w, i32_w]
            rfl
           refine one_ (i := 11) (N := some 18) #[true, true, true, true, true, true, true, true, true, true, true, true, false] rfl rfl (one_of HT_.out (by kernel_rfl)) (by decide) (fun K hK => ?_)
           refine box_step ?hg (N := 18) ?hd (cs := #[.int .i64 0, .int .i64 0, .int .i64 0]) (t := 22) ?hr ?_; (case hd => rfl); (case hg => rfl); (case hr => first | (go_simp; done) | (go_simp; rfl))
           intro gb163 hg w40 hbox hb
           have n0_ := Aside0.mk (blk_below (g := gb146) (o := .cells #[.int .i64 a2_0, .int .i64 a2_1, .int .i64 a2_2] 22 (0, 0)) (by (with_reducible repeat (first | refine blk_drewN ?_ _ | refine blk_drew ?_ | refine blk_alloc ?_ _)); exact BK146.out) hb)
           have n1_ := Aside0.mk (below_step (by repeat (first | (with_reducible first | exact HB.out | apply below_alloc | apply pw_below_drewN | apply below_drew1 | refine below_set ?_ GE146.out) | exact HB.out)) hb)
           have n2_ := Aside0.mk (hbox)
           have n3_ := Aside0.mk ((by rw [hg]; exact (below_size (by repeat (first | (with_reducible first | exact HB.out | apply below_alloc | apply pw_below_drewN | apply below_drew1 | refine below_set ?_ GE146.out) | exact HB.out))) : w.heap.size ≤ gb163))
           have n4_ := Aside0.mk ((by rw [hg]; exact (below_size (by repeat (first | (with_reducible first | exact HB.out | apply below_alloc | apply pw_below_drewN | apply below_drew1 | refine below_set ?_ GE146.out) | exact HB.out))) : w.heap.size ≤ gb163))
           have n5_ := Aside0.mk ((by rw [hg]; exact Nat.ne_of_lt (blk_lt (g := gb146) (o := .cells #[.int .i64 a2_0, .int .i64 a2_1, .int .i64 a2_2] 22 (0, 0)) (by (with_reducible repeat (first | refine blk_drewN ?_ _ | refine blk_drew ?_ | refine blk_alloc ?_ _)); exact BK146.out)) : gb146 ≠ gb163))
           have n6_ := Aside0.mk ((by rw [hg]; exact Nat.ne_of_gt (blk_lt (g := gb146) (o := .cells #[.int .i64 a2_0, .int .i64 a2_1, .int .i64 a2_2] 22 (0, 0)) (by (with_reducible repeat (first | refine blk_drewN ?_ _ | refine blk_drew ?_ | refine blk_alloc ?_ _)); exact BK146.out)) : gb163 ≠ gb146))
           clear BK146
           clear HB
           have BK146 := n0_
           have HB := n1_
           have BK163 := n2_
           have GW163 := n3_
           have GE163 := n4_
           have NB146_163 := n5_
           have NB163_146 := n6_
           clear n0_ n1_ n2_ n3_ n4_ n5_ n6_
           clear hb hbox hg
           refine hK.out _ _ ⟨(blk_cell BK146.out 0).trans rfl, (blk_cell BK146.out 1).trans rfl, (blk_cell BK146.out 2).trans rfl⟩ (fun hHeld => ?_)
           clear hK K
           refine norm_ (a' := ?_) ?_ ?_
           rotate_left
           ·show Act.put _ (some 18) _ = _
            simp only [Act.put, setIfInBounds_toArray, set_cons_zero, set_cons_succ, i64_w, i32_w]
            rfl
           exact norm_ (by simp only [putAll, Act.put, setIfInBounds_toArray, set_cons_zero, set_cons_succ]) (hCont (gb163) _ ⟨hHeld, (by (with_reducible repeat (first | refine blk_drewN ?_ _ | refine blk_drew ?_ | refine blk_alloc ?_ _)); exact BK146.out), (by (with_reducible repeat (first | refine blk_drewN ?_ _ | refine blk_drew ?_ | refine blk_alloc ?_ _)); exact BK163.out), GW163.out, GE163.out, NB146_163.out, NB163_146.out, (by repeat (first | (with_reducible first | exact HB.out | apply below_alloc | apply pw_below_drewN | apply below_drew1 | refine below_set ?_ GE146.out | refine below_set ?_ GE163.out) | exact HB.out))⟩)
          ·skip
           refine box_step ?hg (N := 18) ?hd (cs := #[.int .i64 0, .int .i64 0, .int .i64 0]) (t := 22) ?hr ?_; (case hd => rfl); (case hg => rfl); (case hr => first | (go_simp; done) | (go_simp; rfl))
           intro gb163 hg w40 hbox hb
           have n0_ := Aside0.mk (blk_below (g := gb146) (o := .cells #[.int .i64 a2_0, .int .i64 a2_1, .int .i64 a2_2] 22 (0, 0)) (by (with_reducible repeat (first | refine blk_drewN ?_ _ | refine blk_drew ?_ | refine blk_alloc ?_ _)); exact BK146.out) hb)
           have n1_ := Aside0.mk (below_step (by repeat (first | (with_reducible first | exact HB.out | apply below_alloc | apply pw_below_drewN | apply below_drew1 | refine below_set ?_ GE146.out) | exact HB.out)) hb)
           have n2_ := Aside0.mk (hbox)
           have n3_ := Aside0.mk ((by rw [hg]; exact (below_size (by repeat (first | (with_reducible first | exact HB.out | apply below_alloc | apply pw_below_drewN | apply below_drew1 | refine below_set ?_ GE146.out) | exact HB.out))) : w.heap.size ≤ gb163))
           have n4_ := Aside0.mk ((by rw [hg]; exact (below_size (by repeat (first | (with_reducible first | exact HB.out | apply below_alloc | apply pw_below_drewN | apply below_drew1 | refine below_set ?_ GE146.out) | exact HB.out))) : w.heap.size ≤ gb163))
           have n5_ := Aside0.mk ((by rw [hg]; exact Nat.ne_of_lt (blk_lt (g := gb146) (o := .cells #[.int .i64 a2_0, .int .i64 a2_1, .int .i64 a2_2] 22 (0, 0)) (by (with_reducible repeat (first | refine blk_drewN ?_ _ | refine blk_drew ?_ | refine blk_alloc ?_ _)); exact BK146.out)) : gb146 ≠ gb163))
           have n6_ := Aside0.mk ((by rw [hg]; exact Nat.ne_of_gt (blk_lt (g := gb146) (o := .cells #[.int .i64 a2_0, .int .i64 a2_1, .int .i64 a2_2] 22 (0, 0)) (by (with_reducible repeat (first | refine blk_drewN ?_ _ | refine blk_drew ?_ | refine blk_alloc ?_ _)); exact BK146.out)) : gb163 ≠ gb146))
           clear BK146
           clear HB
           have BK146 := n0_
           have HB := n1_
           have BK163 := n2_
           have GW163 := n3_
           have GE163 := n4_
           have NB146_163 := n5_
           have NB163_146 := n6_
           clear n0_ n1_ n2_ n3_ n4_ n5_ n6_
           clear hb hbox hg
           refine hK.out _ _ ⟨(blk_cell BK146.out 0).trans rfl, (blk_cell BK146.out 1).trans rfl, (blk_cell BK146.out 2).trans rfl⟩ (fun hHeld => ?_)
           clear hK K
           refine norm_ (a' := ?_) ?_ ?_
           rotate_left
           ·show Act.put _ (some 18) _ = _
            simp only [Act.put, setIfInBounds_toArray, set_cons_zero, set_cons_succ, i64_w, i32_w]
            rfl
           refine one_ (i := 9) (N := some 99) #[true, true, true, true, true, true, true, true, true, true, false, true, false] rfl rfl (one_of HT_.out (by kernel_rfl)) (by decide) (fun K hK => ?_)
           refine goes_ Tryd.func10 (by kernel_rfl) rfl #[.int .i64 a2_2, .int .i64 33] (by rfl) rfl rfl (by (try simp only [List.map_toArray, List.map_cons, List.map_nil]); first | done | rfl | (simp only [List.length_drop, List.length_take]; rfl)) ?_
           with_reducible refine (wageofficelaw02_pick.calls a2_2 33 t162 _ A32.out).mono ?_
           rintro e w' ⟨rfl, ⟨nd, rfl⟩⟩
           refine ⟨_, rfl, ?_⟩
           refine hK.out _ _ ⟨(blk_cell BK146.out 0).trans rfl, (blk_cell BK146.out 1).trans rfl, (blk_cell BK146.out 2).trans rfl⟩ (fun hHeld => ?_)
           clear hK K
           refine norm_ (a' := ?_) ?_ ?_
           rotate_left
           ·show Act.put _ (some 99) _ = _
            simp only [Act.put, setIfInBounds_toArray, set_cons_zero, set_cons_succ, i64_w, i32_w]
            rfl
           refine pure_ (i := 10) (N := some 100) (v := ?_) (a' := ?_) #[true, true, true, true, true, true, true, true, true, true, true, true, false] rfl rfl (any_of HT_.out (by kernel_rfl)) (fun _ _ _ h => h) (Or.inl ⟨by rfl, ?_⟩) ?_ ?_
           rotate_left
           ·intro w'
            go_simp
            with_reducible rfl
           rotate_left
           ·simp only [Act.put, setIfInBounds_toArray, set_cons_zero, set_cons_succ, i64_w, i32_w]
            rfl
           exact norm_ (by simp only [putAll, Act.put, setIfInBounds_toArray, set_cons_zero, set_cons_succ]) (hCont (gb163) _ ⟨hHeld, (by (with_reducible repeat (first | refine blk_drewN ?_ _ | refine blk_drew ?_ | refine blk_alloc ?_ _)); exact BK146.out), (by (with_reducible repeat (first | refine blk_drewN ?_ _ | refine blk_drew ?_ | refine blk_alloc ?_ _)); exact BK163.out), GW163.out, GE163.out, NB146_163.out, NB163_146.out, (by repeat (first | (with_reducible first | exact HB.out | apply below_alloc | apply pw_below_drewN | apply below_drew1 | refine below_set ?_ GE146.out | refine below_set ?_ GE163.out) | exact HB.out))⟩)
         ·skip
          refine box_step ?hg (N := 18) ?hd (cs := #[.int .i64 0, .int .i64 0, .int .i64 0]) (t := 22) ?hr ?_; (case hd => rfl); (case hg => rfl); (case hr => first | (go_simp; done) | (go_simp; rfl))
          intro gb163 hg w40 hbox hb
          have n0_ := Aside0.mk (blk_below (g := gb146) (o := .cells #[.int .i64 a2_0, .int .i64 a2_1, .int .i64 a2_2] 22 (0, 0)) (by (with_reducible repeat (first | refine blk_drewN ?_ _ | refine blk_drew ?_ | refine blk_alloc ?_ _)); exact BK146.out) hb)
          have n1_ := Aside0.mk (below_step (by repeat (first | (with_reducible first | exact HB.out | apply below_alloc | apply pw_below_drewN | apply below_drew1 | refine below_set ?_ GE146.out) | exact HB.out)) hb)
          have n2_ := Aside0.mk (hbox)
          have n3_ := Aside0.mk ((by rw [hg]; exact (below_size (by repeat (first | (with_reducible first | exact HB.out | apply below_alloc | apply pw_below_drewN | apply below_drew1 | refine below_set ?_ GE146.out) | exact HB.out))) : w.heap.size ≤ gb163))
          have n4_ := Aside0.mk ((by rw [hg]; exact (below_size (by repeat (first | (with_reducible first | exact HB.out | apply below_alloc | apply pw_below_drewN | apply below_drew1 | refine below_set ?_ GE146.out) | exact HB.out))) : w.heap.size ≤ gb163))
          have n5_ := Aside0.mk ((by rw [hg]; exact Nat.ne_of_lt (blk_lt (g := gb146) (o := .cells #[.int .i64 a2_0, .int .i64 a2_1, .int .i64 a2_2] 22 (0, 0)) (by (with_reducible repeat (first | refine blk_drewN ?_ _ | refine blk_drew ?_ | refine blk_alloc ?_ _)); exact BK146.out)) : gb146 ≠ gb163))
          have n6_ := Aside0.mk ((by rw [hg]; exact Nat.ne_of_gt (blk_lt (g := gb146) (o := .cells #[.int .i64 a2_0, .int .i64 a2_1, .int .i64 a2_2] 22 (0, 0)) (by (with_reducible repeat (first | refine blk_drewN ?_ _ | refine blk_drew ?_ | refine blk_alloc ?_ _)); exact BK146.out)) : gb163 ≠ gb146))
          clear BK146
          clear HB
          have BK146 := n0_
          have HB := n1_
          have BK163 := n2_
          have GW163 := n3_
          have GE163 := n4_
          have NB146_163 := n5_
          have NB163_146 := n6_
          clear n0_ n1_ n2_ n3_ n4_ n5_ n6_
          clear hb hbox hg
          refine hK.out _ _ ⟨(blk_cell BK146.out 0).trans rfl, (blk_cell BK146.out 1).trans rfl, (blk_cell BK146.out 2).trans rfl⟩ (fun hHeld => ?_)
          clear hK K
          refine norm_ (a' := ?_) ?_ ?_
          rotate_left
          ·show Act.put _ (some 18) _ = _
           simp only [Act.put, setIfInBounds_toArray, set_cons_zero, set_cons_succ, i64_w, i32_w]
           rfl
          refine one_ (i := 6) (N := some 96) #[true, true, true, true, true, true, true, true, true, false, false, true, false] rfl rfl (one_of HT_.out (by kernel_rfl)) (by decide) (fun K hK => ?_)
          refine goes_ Tryd.func10 (by kernel_rfl) rfl #[.int .i64 a2_1, .int .i64 14] (by rfl) rfl rfl (by (try simp only [List.map_toArray, List.map_cons, List.map_nil]); first | done | rfl | (simp only [List.length_drop, List.length_take]; rfl)) ?_
          with_reducible refine (wageofficelaw02_pick.calls a2_1 14 t161 _ A31.out).mono ?_
          rintro e w' ⟨rfl, ⟨nd, rfl⟩⟩
          refine ⟨_, rfl, ?_⟩
          refine hK.out _ _ ⟨(blk_cell BK146.out 0).trans rfl, (blk_cell BK146.out 1).trans rfl, (blk_cell BK146.out 2).trans rfl⟩ (fun hHeld => ?_)
          clear hK K
          refine norm_ (a' := ?_) ?_ ?_
          rotate_left
          ·show Act.put _ (some 96) _ = _
           simp only [Act.put, setIfInBounds_toArray, set_cons_zero, set_cons_succ, i64_w, i32_w]
           rfl
          refine one_ (i := 9) (N := some 99) #[true, true, true, true, true, true, true, true, true, true, false, true, false] rfl rfl (one_of HT_.out (by kernel_rfl)) (by decide) (fun K hK => ?_)
          refine goes_ Tryd.func10 (by kernel_rfl) rfl #[.int .i64 a2_2, .int .i64 33] (by rfl) rfl rfl (by (try simp only [List.map_toArray, List.map_cons, List.map_nil]); first | done | rfl | (simp only [List.length_drop, List.length_take]; rfl)) ?_
          with_reducible refine (wageofficelaw02_pick.calls a2_2 33 t162 _ A32.out).mono ?_
          rintro e w' ⟨rfl, ⟨nd, rfl⟩⟩
          refine ⟨_, rfl, ?_⟩
          refine hK.out _ _ ⟨(blk_cell BK146.out 0).trans rfl, (blk_cell BK146.out 1).trans rfl, (blk_cell BK146.out 2).trans rfl⟩ (fun hHeld => ?_)
          clear hK K
          refine norm_ (a' := ?_) ?_ ?_
          rotate_left
          ·show Act.put _ (some 99) _ = _
           simp only [Act.put, setIfInBounds_toArray, set_cons_zero, set_cons_succ, i64_w, i32_w]
           rfl
          refine pure_ (i := 10) (N := some 100) (v := ?_) (a' := ?_) #[true, true, true, true, true, true, true, true, true, true, true, true, false] rfl rfl (any_of HT_.out (by kernel_rfl)) (fun _ _ _ h => h) (Or.inl ⟨by rfl, ?_⟩) ?_ ?_
          rotate_left
          ·intro w'
           go_simp
           with_reducible rfl
          rotate_left
          ·simp only [Act.put, setIfInBounds_toArray, set_cons_zero, set_cons_succ, i64_w, i32_w]
           rfl
          exact norm_ (by simp only [putAll, Act.put, setIfInBounds_toArray, set_cons_zero, set_cons_succ]) (hCont (gb163) _ ⟨hHeld, (by (with_reducible repeat (first | refine blk_drewN ?_ _ | refine blk_drew ?_ | refine blk_alloc ?_ _)); exact BK146.out), (by (with_reducible repeat (first | refine blk_drewN ?_ _ | refine blk_drew ?_ | refine blk_alloc ?_ _)); exact BK163.out), GW163.out, GE163.out, NB146_163.out, NB163_146.out, (by repeat (first | (with_reducible first | exact HB.out | apply below_alloc | apply pw_below_drewN | apply below_drew1 | refine below_set ?_ GE146.out | refine below_set ?_ GE163.out) | exact HB.out))⟩)
        ·skip
         refine box_step ?hg (N := 18) ?hd (cs := #[.int .i64 0, .int .i64 0, .int .i64 0]) (t := 22) ?hr ?_; (case hd => rfl); (case hg => rfl); (case hr => first | (go_simp; done) | (go_simp; rfl))
         intro gb163 hg w40 hbox hb
         have n0_ := Aside0.mk (blk_below (g := gb146) (o := .cells #[.int .i64 a2_0, .int .i64 a2_1, .int .i64 a2_2] 22 (0, 0)) (by (with_reducible repeat (first | refine blk_drewN ?_ _ | refine blk_drew ?_ | refine blk_alloc ?_ _)); exact BK146.out) hb)
         have n1_ := Aside0.mk (below_step (by repeat (first | (with_reducible first | exact HB.out | apply below_alloc | apply pw_below_drewN | apply below_drew1 | refine below_set ?_ GE146.out) | exact HB.out)) hb)
         have n2_ := Aside0.mk (hbox)
         have n3_ := Aside0.mk ((by rw [hg]; exact (below_size (by repeat (first | (with_reducible first | exact HB.out | apply below_alloc | apply pw_below_drewN | apply below_drew1 | refine below_set ?_ GE146.out) | exact HB.out))) : w.heap.size ≤ gb163))
         have n4_ := Aside0.mk ((by rw [hg]; exact (below_size (by repeat (first | (with_reducible first | exact HB.out | apply below_alloc | apply pw_below_drewN | apply below_drew1 | refine below_set ?_ GE146.out) | exact HB.out))) : w.heap.size ≤ gb163))
         have n5_ := Aside0.mk ((by rw [hg]; exact Nat.ne_of_lt (blk_lt (g := gb146) (o := .cells #[.int .i64 a2_0, .int .i64 a2_1, .int .i64 a2_2] 22 (0, 0)) (by (with_reducible repeat (first | refine blk_drewN ?_ _ | refine blk_drew ?_ | refine blk_alloc ?_ _)); exact BK146.out)) : gb146 ≠ gb163))
         have n6_ := Aside0.mk ((by rw [hg]; exact Nat.ne_of_gt (blk_lt (g := gb146) (o := .cells #[.int .i64 a2_0, .int .i64 a2_1, .int .i64 a2_2] 22 (0, 0)) (by (with_reducible repeat (first | refine blk_drewN ?_ _ | refine blk_drew ?_ | refine blk_alloc ?_ _)); exact BK146.out)) : gb163 ≠ gb146))
         clear BK146
         clear HB
         have BK146 := n0_
         have HB := n1_
         have BK163 := n2_
         have GW163 := n3_
         have GE163 := n4_
         have NB146_163 := n5_
         have NB163_146 := n6_
         clear n0_ n1_ n2_ n3_ n4_ n5_ n6_
         clear hb hbox hg
         refine hK.out _ _ ⟨(blk_cell BK146.out 0).trans rfl, (blk_cell BK146.out 1).trans rfl, (blk_cell BK146.out 2).trans rfl⟩ (fun hHeld => ?_)
         clear hK K
         refine norm_ (a' := ?_) ?_ ?_
         rotate_left
         ·show Act.put _ (some 18) _ = _
          simp only [Act.put, setIfInBounds_toArray, set_cons_zero, set_cons_succ, i64_w, i32_w]
          rfl
         refine one_ (i := 2) (N := some 92) #[true, true, true, false, true, true, false, true, true, false, false, true, false] rfl rfl (one_of HT_.out (by kernel_rfl)) (by decide) (fun K hK => ?_)
         refine goes_ Tryd.func10 (by kernel_rfl) rfl #[.int .i64 a2_0, .int .i64 102] (by rfl) rfl rfl (by (try simp only [List.map_toArray, List.map_cons, List.map_nil]); first | done | rfl | (simp only [List.length_drop, List.length_take]; rfl)) ?_
         with_reducible refine (wageofficelaw02_pick.calls a2_0 102 t160 _ A30.out).mono ?_
         rintro e w' ⟨rfl, ⟨nd, rfl⟩⟩
         refine ⟨_, rfl, ?_⟩
         refine hK.out _ _ ⟨(blk_cell BK146.out 0).trans rfl, (blk_cell BK146.out 1).trans rfl, (blk_cell BK146.out 2).trans rfl⟩ (fun hHeld => ?_)
         clear hK K
         refine norm_ (a' := ?_) ?_ ?_
         rotate_left
         ·show Act.put _ (some 92) _ = _
          simp only [Act.put, setIfInBounds_toArray, set_cons_zero, set_cons_succ, i64_w, i32_w]
          rfl
         refine pure_ (i := 3) (N := some 93) (v := ?_) (a' := ?_) #[true, true, true, true, true, true, false, true, true, false, false, true, false] rfl rfl (any_of HT_.out (by kernel_rfl)) (fun _ _ _ h => h) (Or.inl ⟨by rfl, ?_⟩) ?_ ?_
         rotate_left
         ·intro w'
          go_simp
          with_reducible rfl
         rotate_left
         ·simp only [Act.put, setIfInBounds_toArray, set_cons_zero, set_cons_succ, i64_w, i32_w]
          rfl
         refine one_ (i := 6) (N := some 96) #[true, true, true, true, true, true, true, true, true, false, false, true, false] rfl rfl (one_of HT_.out (by kernel_rfl)) (by decide) (fun K hK => ?_)
         refine goes_ Tryd.func10 (by kernel_rfl) rfl #[.int .i64 a2_1, .int .i64 14] (by rfl) rfl rfl (by (try simp only [List.map_toArray, List.map_cons, List.map_nil]); first | done | rfl | (simp only [List.length_drop, List.length_take]; rfl)) ?_
         with_reducible refine (wageofficelaw02_pick.calls a2_1 14 t161 _ A31.out).mono ?_
         rintro e w' ⟨rfl, ⟨nd, rfl⟩⟩
         refine ⟨_, rfl, ?_⟩
         refine hK.out _ _ ⟨(blk_cell BK146.out 0).trans rfl, (blk_cell BK146.out 1).trans rfl, (blk_cell BK146.out 2).trans rfl⟩ (fun hHeld => ?_)
         clear hK K
         refine norm_ (a' := ?_) ?_ ?_
         rotate_left
         ·show Act.put _ (some 96) _ = _
          simp only [Act.put, setIfInBounds_toArray, set_cons_zero, set_cons_succ, i64_w, i32_w]
          rfl
         refine one_ (i := 9) (N := some 99) #[true, true, true, true, true, true, true, true, true, true, false, true, false] rfl rfl (one_of HT_.out (by kernel_rfl)) (by decide) (fun K hK => ?_)
         refine goes_ Tryd.func10 (by kernel_rfl) rfl #[.int .i64 a2_2, .int .i64 33] (by rfl) rfl rfl (by (try simp only [List.map_toArray, List.map_cons, List.map_nil]); first | done | rfl | (simp only [List.length_drop, List.length_take]; rfl)) ?_
         with_reducible refine (wageofficelaw02_pick.calls a2_2 33 t162 _ A32.out).mono ?_
         rintro e w' ⟨rfl, ⟨nd, rfl⟩⟩
         refine ⟨_, rfl, ?_⟩
         refine hK.out _ _ ⟨(blk_cell BK146.out 0).trans rfl, (blk_cell BK146.out 1).trans rfl, (blk_cell BK146.out 2).trans rfl⟩ (fun hHeld => ?_)
         clear hK K
         refine norm_ (a' := ?_) ?_ ?_
         rotate_left
         ·show Act.put _ (some 99) _ = _
          simp only [Act.put, setIfInBounds_toArray, set_cons_zero, set_cons_succ, i64_w, i32_w]
          rfl
         refine pure_ (i := 10) (N := some 100) (v := ?_) (a' := ?_) #[true, true, true, true, true, true, true, true, true, true, true, true, false] rfl rfl (any_of HT_.out (by kernel_rfl)) (fun _ _ _ h => h) (Or.inl ⟨by rfl, ?_⟩) ?_ ?_
         rotate_left
         ·intro w'
          go_simp
          with_reducible rfl
         rotate_left
         ·simp only [Act.put, setIfInBounds_toArray, set_cons_zero, set_cons_succ, i64_w, i32_w]
          rfl
         exact norm_ (by simp only [putAll, Act.put, setIfInBounds_toArray, set_cons_zero, set_cons_succ]) (hCont (gb163) _ ⟨hHeld, (by (with_reducible repeat (first | refine blk_drewN ?_ _ | refine blk_drew ?_ | refine blk_alloc ?_ _)); exact BK146.out), (by (with_reducible repeat (first | refine blk_drewN ?_ _ | refine blk_drew ?_ | refine blk_alloc ?_ _)); exact BK163.out), GW163.out, GE163.out, NB146_163.out, NB163_146.out, (by repeat (first | (with_reducible first | exact HB.out | apply below_alloc | apply pw_below_drewN | apply below_drew1 | refine below_set ?_ GE146.out | refine below_set ?_ GE163.out) | exact HB.out))⟩)
       rintro gb163 w41 ⟨hS_, h0_, h1_, h2_, h3_, h4_, h5_, h6_⟩
       have n0_ : Aside0 (w41.heap[gb146]? = some (.cells #[.int .i64 a2_0, .int .i64 a2_1, .int .i64 a2_2] 22 (0, 0))) := ⟨h0_⟩
       have n1_ : Aside0 (w41.heap[gb163]? = some (.cells #[.int .i64 0, .int .i64 0, .int .i64 0] 22 (0, 0))) := ⟨h1_⟩
       have n2_ : Aside0 (w.heap.size ≤ gb163) := ⟨h2_⟩
       have n3_ : Aside0 (w.heap.size ≤ gb163) := ⟨h3_⟩
       have n4_ : Aside0 (gb146 ≠ gb163) := ⟨h4_⟩
       have n5_ : Aside0 (gb163 ≠ gb146) := ⟨h5_⟩
       have n6_ : Aside0 (Below w.heap.size w w41) := ⟨h6_⟩
       clear BK146
       clear HB
       clear h0_ h1_ h2_ h3_ h4_ h5_ h6_
       have BK146 := n0_
       have BK163 := n1_
       have GW163 := n2_
       have GE163 := n3_
       have NB146_163 := n4_
       have NB163_146 := n5_
       have HB := n6_
       clear n0_ n1_ n2_ n3_ n4_ n5_ n6_
       have hHeld : w41.cell? ⟨gb146, 0, none⟩ = some (.int .i64 a2_0) ∧ w41.cell? ⟨gb146, 1, none⟩ = some (.int .i64 a2_1) ∧ w41.cell? ⟨gb146, 2, none⟩ = some (.int .i64 a2_2) := hS_
       refine norm_ (a' := ?_) ?_ ?_
       rotate_left
       ·simp only [putAll, Act.put, setIfInBounds_toArray, set_cons_zero, set_cons_succ]
        rfl
       refine one_ (i := 12) (N := none) #[true, true, true, true, true, true, true, true, true, true, true, true, true] rfl rfl (one_of HT_.out (by kernel_rfl)) (by decide) (fun K hK => ?_)
       have hs42 : w41.cell? ⟨gb163, 0, none⟩ = some (.int .i64 0) := (blk_cell BK163.out 0).trans rfl
       have hfs42 := blk_frozen BK163.out 0
       have hns42_0 := NB146_163.out
       have hms42_0 := NB163_146.out
       have hs43 : w41.cell? ⟨gb163, 1, none⟩ = some (.int .i64 0) := (blk_cell BK163.out 1).trans rfl
       have hfs43 := blk_frozen BK163.out 1
       have hns43_0 := NB146_163.out
       have hms43_0 := NB163_146.out
       have hs44 : w41.cell? ⟨gb163, 2, none⟩ = some (.int .i64 0) := (blk_cell BK163.out 2).trans rfl
       have hfs44 := blk_frozen BK163.out 2
       have hns44_0 := NB146_163.out
       have hms44_0 := NB163_146.out
       refine skip_ (w1 := ?_) (by rfl) rfl ?_ ?_
       rotate_left
       ·go_simp
        rfl
       refine hK.out _ _ ⟨((cell_far (p := ⟨gb163, _, none⟩) NB146_163.out _).trans (((cell_far (p := ⟨gb163, _, none⟩) NB146_163.out _).trans (((cell_far (p := ⟨gb163, _, none⟩) NB146_163.out _).trans (hHeld.1)))))), ((cell_far (p := ⟨gb163, _, none⟩) NB146_163.out _).trans (((cell_far (p := ⟨gb163, _, none⟩) NB146_163.out _).trans (((cell_far (p := ⟨gb163, _, none⟩) NB146_163.out _).trans (hHeld.2.1)))))), ((cell_far (p := ⟨gb163, _, none⟩) NB146_163.out _).trans (((cell_far (p := ⟨gb163, _, none⟩) NB146_163.out _).trans (((cell_far (p := ⟨gb163, _, none⟩) NB146_163.out _).trans (hHeld.2.2))))))⟩ (fun hHeld => ?_)
       clear hK K
       refine done_ (done_of HT_.out (by kernel_rfl)) ?_
       have hnb45 := NB163_146.out
       have hnc45 := NB146_163.out
       have hcz46_0 : w41.cell? ⟨gb163, 0, none⟩ = some (.int .i64 0) := (blk_cell BK163.out 0).trans rfl
       have hcz46_1 : w41.cell? ⟨gb163, 1, none⟩ = some (.int .i64 0) := (blk_cell BK163.out 1).trans rfl
       have hcz46_2 : w41.cell? ⟨gb163, 2, none⟩ = some (.int .i64 0) := (blk_cell BK163.out 2).trans rfl
       have hfz46_0 := blk_frozen BK163.out 0
       have hfz46_1 := blk_frozen BK163.out 1
       have hfz46_2 := blk_frozen BK163.out 2
       try go_wp2_with (first | ((with_reducible refine gate_callee (f := 25) rfl ?_); refine goesL_ (some 108) rfl rfl Tryd.func25 (by kernel_rfl) rfl #[.int .i64 (wrap64 (1999 + t160)), .int .i64 t161, .int .i64 t162] rfl (by (try simp only [List.map_toArray, List.map_cons, List.map_nil]); first | done | rfl | (simp only [List.length_drop, List.length_take]; rfl)) ?_; (with_reducible refine (calendar_Day.calls (wrap64 (1999 + t160)) t161 t162 t164 t165 _ A33.out (TabBefore.below hTBefore.out (by repeat (first | exact HB.out | apply below_alloc | apply pw_below_drewN | apply below_drew1 | refine below_set ?_ GE146.out | refine below_set ?_ GE163.out)))).mono ?_); rintro e w47 ⟨rfl, hb⟩; refine ⟨_, rfl, ?_⟩; have n0_ := Aside0.mk (blk_below (g := gb146) (o := .cells #[.int .i64 a2_0, .int .i64 a2_1, .int .i64 a2_2] 22 (0, 0)) (by (with_reducible repeat (first | refine blk_drewN ?_ _ | refine blk_drew ?_ | refine blk_alloc ?_ _)); refine blk_far ?_ NB146_163.out _; (with_reducible repeat (first | refine blk_drewN ?_ _ | refine blk_drew ?_ | refine blk_alloc ?_ _)); refine blk_far ?_ NB146_163.out _; (with_reducible repeat (first | refine blk_drewN ?_ _ | refine blk_drew ?_ | refine blk_alloc ?_ _)); refine blk_far ?_ NB146_163.out _; (with_reducible repeat (first | refine blk_drewN ?_ _ | refine blk_drew ?_ | refine blk_alloc ?_ _)); exact BK146.out) hb); have n1_ := Aside0.mk (blk_below (g := gb163) (o := .cells #[.int .i64 (wrap64 (1999 + t160)), .int .i64 t161, .int .i64 t162] 22 (0, 0)) (by (with_reducible repeat (first | refine blk_drewN ?_ _ | refine blk_drew ?_ | refine blk_alloc ?_ _)); refine blk_put (cs := #[.int .i64 (wrap64 (1999 + t160)), .int .i64 t161, .int .i64 0]) ?_ 2 _ rfl; (with_reducible repeat (first | refine blk_drewN ?_ _ | refine blk_drew ?_ | refine blk_alloc ?_ _)); refine blk_put (cs := #[.int .i64 (wrap64 (1999 + t160)), .int .i64 0, .int .i64 0]) ?_ 1 _ rfl; (with_reducible repeat (first | refine blk_drewN ?_ _ | refine blk_drew ?_ | refine blk_alloc ?_ _)); refine blk_put (cs := #[.int .i64 0, .int .i64 0, .int .i64 0]) ?_ 0 _ rfl; (with_reducible repeat (first | refine blk_drewN ?_ _ | refine blk_drew ?_ | refine blk_alloc ?_ _)); exact BK163.out) hb); have n2_ := Aside0.mk (below_step (by repeat (first | (with_reducible first | exact HB.out | apply below_alloc | apply pw_below_drewN | apply below_drew1 | refine below_set ?_ GE146.out | refine below_set ?_ GE163.out) | exact HB.out)) hb); clear BK146; clear BK163; clear HB; have BK146 := n0_; have BK163 := n1_; have HB := n2_; clear n0_ n1_ n2_; (try clear hb); (try clear hb2); (try clear hk); (try clear hi)) | ((with_reducible refine gate_callee (f := 11) rfl ?_); refine goesL_ (some 124) rfl rfl Tryd.func11 (by kernel_rfl) rfl #[.int .i64 t164] rfl (by (try simp only [List.map_toArray, List.map_cons, List.map_nil]); first | done | rfl | (simp only [List.length_drop, List.length_take]; rfl)) ?_; (with_reducible refine (calendar_Date.calls t164 t166 t167 t168 _ A35.out (TabBefore.below hTBefore.out (by repeat (first | exact HB.out | apply below_alloc | apply pw_below_drewN | apply below_drew1 | refine below_set ?_ GE146.out | refine below_set ?_ GE163.out)))).mono ?_); rintro e w48 ⟨rfl, hb⟩; refine ⟨_, rfl, ?_⟩; have n0_ := Aside0.mk (blk_below (g := gb146) (o := .cells #[.int .i64 a2_0, .int .i64 a2_1, .int .i64 a2_2] 22 (0, 0)) (by (with_reducible repeat (first | refine blk_drewN ?_ _ | refine blk_drew ?_ | refine blk_alloc ?_ _)); exact BK146.out) hb); have n1_ := Aside0.mk (blk_below (g := gb163) (o := .cells #[.int .i64 (wrap64 (1999 + t160)), .int .i64 t161, .int .i64 t162] 22 (0, 0)) (by (with_reducible repeat (first | refine blk_drewN ?_ _ | refine blk_drew ?_ | refine blk_alloc ?_ _)); exact BK163.out) hb); have n2_ := Aside0.mk (below_step (by repeat (first | (with_reducible first | exact HB.out | apply below_alloc | apply pw_below_drewN | apply below_drew1 | refine below_set ?_ GE146.out | refine below_set ?_ GE163.out) | exact HB.out)) hb); clear BK146; clear BK163; clear HB; have BK146 := n0_; have BK163 := n1_; have HB := n2_; clear n0_ n1_ n2_; (try clear hb); (try clear hb2); (try clear hk); (try clear hi); have hcz49_0 : w48.cell? ⟨gb163, 0, none⟩ = some (.int .i64 (wrap64 (1999 + t160))) := (blk_cell BK163.out 0).trans rfl; have hcz49_1 : w48.cell? ⟨gb163, 1, none⟩ = some (.int .i64 t161) := (blk_cell BK163.out 1).trans rfl; have hcz49_2 : w48.cell? ⟨gb163, 2, none⟩ = some (.int .i64 t162) := (blk_cell BK163.out 2).trans rfl; have hfz49_0 := blk_frozen BK163.out 0; have hfz49_1 := blk_frozen BK163.out 1; have hfz49_2 := blk_frozen BK163.out 2))
       go_ret
       exact ⟨by first | rfl | (simp [errW_none, errW_some] <;> rfl) | (simp [*, errW_none, errW_some] <;> rfl), by repeat (first | (with_reducible first | exact HB.out | apply below_alloc | apply pw_below_drewN | apply below_drew1 | refine below_set ?_ GE146.out | refine below_set ?_ GE163.out) | exact HB.out)⟩
      ·rw [if_neg c38] at H
       have c38b0 : (t167 == t161) = false := beq_eq_false_iff_ne.mpr c38
       have c38b1 : (t167 != t161) = true := bne_iff_ne.mpr c38
       obtain rfl := Option.some.inj H
       try go_wp2
       have n0_ := Aside0.mk (blk_drew BK146.out)
       have n1_ := Aside0.mk (below_drew1 HB.out)
       clear BK146
       clear HB
       have BK146 := n0_
       have HB := n1_
       clear n0_ n1_
       refine start_ (n := 13) (S := fun w' => w'.cell? ⟨gb146, 0, none⟩ = some (.int .i64 a2_0) ∧ w'.cell? ⟨gb146, 1, none⟩ = some (.int .i64 a2_1) ∧ w'.cell? ⟨gb146, 2, none⟩ = some (.int .i64 a2_2)) (ds := []) #[false, false, false, false, false, false, false, false, false, false, false, false, false] (by kernel_rfl) rfl rfl ⟨(blk_cell BK146.out 0).trans rfl, (blk_cell BK146.out 1).trans rfl, (blk_cell BK146.out 2).trans rfl⟩ (fun hHeld => ?_); refine with_tabW CI.tab9 CI.bits9 (fun HT_ HW_ => ?_)
       generalize wc.drew = w50 at BK146 HB hHeld ⊢
       refine pure_ (i := 0) (N := some 90) (v := ?_) (a' := ?_) #[true, false, false, false, false, false, false, false, false, false, false, false, false] rfl rfl (any_of HT_.out (by kernel_rfl)) (fun _ _ _ h => h) (Or.inl ⟨by rfl, ?_⟩) ?_ ?_
       rotate_left
       ·intro w'
        go_simp
        with_reducible rfl
       rotate_left
       ·simp only [Act.put, setIfInBounds_toArray, set_cons_zero, set_cons_succ, i64_w, i32_w]
        rfl
       refine pure_ (i := 4) (N := some 94) (v := ?_) (a' := ?_) #[true, false, false, false, true, false, false, false, false, false, false, false, false] rfl rfl (any_of HT_.out (by kernel_rfl)) (fun _ _ _ h => h) (Or.inl ⟨by rfl, ?_⟩) ?_ ?_
       rotate_left
       ·intro w'
        go_simp
        with_reducible rfl
       rotate_left
       ·simp only [Act.put, setIfInBounds_toArray, set_cons_zero, set_cons_succ, i64_w, i32_w]
        rfl
       refine pure_ (i := 7) (N := some 97) (v := ?_) (a' := ?_) #[true, false, false, false, true, false, false, true, false, false, false, false, false] rfl rfl (any_of HT_.out (by kernel_rfl)) (fun _ _ _ h => h) (Or.inl ⟨by rfl, ?_⟩) ?_ ?_
       rotate_left
       ·intro w'
        go_simp
        with_reducible rfl
       rotate_left
       ·simp only [Act.put, setIfInBounds_toArray, set_cons_zero, set_cons_succ, i64_w, i32_w]
        rfl
       refine take_ (i := 1) (N := some 91) (v := ?_) (a' := ?_) #[true, true, false, false, true, false, false, true, false, false, false, false, false] rfl rfl (take_ofW HT_.out HW_.out (by kernel_rfl)) (fun _ _ _ h => h) (Or.inl ⟨by rfl, ?_⟩) hHeld ?_ ?_
       rotate_left
       ·rintro w' ⟨s0, s1, s2⟩
        go_simp
        with_reducible rfl
       rotate_left
       ·simp only [Act.put, setIfInBounds_toArray, set_cons_zero, set_cons_succ, i64_w, i32_w]
        rfl
       refine take_ (i := 5) (N := some 95) (v := ?_) (a' := ?_) #[true, true, false, false, true, true, false, true, false, false, false, false, false] rfl rfl (take_ofW HT_.out HW_.out (by kernel_rfl)) (fun _ _ _ h => h) (Or.inl ⟨by rfl, ?_⟩) hHeld ?_ ?_
       rotate_left
       ·rintro w' ⟨s0, s1, s2⟩
        go_simp
        with_reducible rfl
       rotate_left
       ·simp only [Act.put, setIfInBounds_toArray, set_cons_zero, set_cons_succ, i64_w, i32_w]
        rfl
       refine take_ (i := 8) (N := some 98) (v := ?_) (a' := ?_) #[true, true, false, false, true, true, false, true, true, false, false, false, false] rfl rfl (take_ofW HT_.out HW_.out (by kernel_rfl)) (fun _ _ _ h => h) (Or.inl ⟨by rfl, ?_⟩) hHeld ?_ ?_
       rotate_left
       ·rintro w' ⟨s0, s1, s2⟩
        go_simp
        with_reducible rfl
       rotate_left
       ·simp only [Act.put, setIfInBounds_toArray, set_cons_zero, set_cons_succ, i64_w, i32_w]
        rfl
       refine join_ (σ := Nat) 1 #[true, true, true, true, true, true, true, true, true, true, true, true, false] (fun s_ => [(92, .int .i64 t160), (96, .int .i64 t161), (99, .int .i64 t162), (18, .pointer (some ⟨s_, 0, none⟩)), (93, .int .i64 (wrap64 (1999 + t160))), (100, .agg #[.int .i64 (wrap64 (1999 + t160)), .int .i64 t161, .int .i64 t162])]) (fun s_ w' => (w'.cell? ⟨gb146, 0, none⟩ = some (.int .i64 a2_0) ∧ w'.cell? ⟨gb146, 1, none⟩ = some (.int .i64 a2_1) ∧ w'.cell? ⟨gb146, 2, none⟩ = some (.int .i64 a2_2)) ∧ (w'.heap[gb146]? = some (.cells #[.int .i64 a2_0, .int .i64 a2_1, .int .i64 a2_2] 22 (0, 0))) ∧ (w'.heap[s_]? = some (.cells #[.int .i64 0, .int .i64 0, .int .i64 0] 22 (0, 0))) ∧ (w.heap.size ≤ s_) ∧ (w.heap.size ≤ s_) ∧ (gb146 ≠ s_) ∧ (s_ ≠ gb146) ∧ (Below w.heap.size w w')) ?_ ?_
       rotate_left
       ·intro hCont
        refine two_ (i := 2) (j := 11) (Ni := some 92) (Nj := some 18) #[true, true, true, false, true, true, false, true, true, false, false, false, false] #[true, true, false, false, true, true, false, true, true, false, false, true, false] rfl rfl rfl rfl (two_of HT_.out (by kernel_rfl)) (by decide) (by decide) (fun K hK => ?_) (fun K hK => ?_)
        ·skip
         refine goes_ Tryd.func10 (by kernel_rfl) rfl #[.int .i64 a2_0, .int .i64 102] (by rfl) rfl rfl (by (try simp only [List.map_toArray, List.map_cons, List.map_nil]); first | done | rfl | (simp only [List.length_drop, List.length_take]; rfl)) ?_
         with_reducible refine (wageofficelaw02_pick.calls a2_0 102 t160 _ A30.out).mono ?_
         rintro e w' ⟨rfl, ⟨nd, rfl⟩⟩
         refine ⟨_, rfl, ?_⟩
         refine hK.out _ _ ⟨(blk_cell BK146.out 0).trans rfl, (blk_cell BK146.out 1).trans rfl, (blk_cell BK146.out 2).trans rfl⟩ (fun hHeld => ?_)
         clear hK K
         refine norm_ (a' := ?_) ?_ ?_
         rotate_left
         ·show Act.put _ (some 92) _ = _
          simp only [Act.put, setIfInBounds_toArray, set_cons_zero, set_cons_succ, i64_w, i32_w]
          rfl
         refine pure_ (i := 3) (N := some 93) (v := ?_) (a' := ?_) #[true, true, true, true, true, true, false, true, true, false, false, false, false] rfl rfl (any_of HT_.out (by kernel_rfl)) (fun _ _ _ h => h) (Or.inl ⟨by rfl, ?_⟩) ?_ ?_
         rotate_left
         ·intro w'
          go_simp
          with_reducible rfl
         rotate_left
         ·simp only [Act.put, setIfInBounds_toArray, set_cons_zero, set_cons_succ, i64_w, i32_w]
          rfl
         refine two_ (i := 6) (j := 11) (Ni := some 96) (Nj := some 18) #[true, true, true, true, true, true, true, true, true, false, false, false, false] #[true, true, true, true, true, true, false, true, true, false, false, true, false] rfl rfl rfl rfl (two_of HT_.out (by kernel_rfl)) (by decide) (by decide) (fun K hK => ?_) (fun K hK => ?_)
         ·skip
          refine goes_ Tryd.func10 (by kernel_rfl) rfl #[.int .i64 a2_1, .int .i64 14] (by rfl) rfl rfl (by (try simp only [List.map_toArray, List.map_cons, List.map_nil]); first | done | rfl | (simp only [List.length_drop, List.length_take]; rfl)) ?_
          with_reducible refine (wageofficelaw02_pick.calls a2_1 14 t161 _ A31.out).mono ?_
          rintro e w' ⟨rfl, ⟨nd, rfl⟩⟩
          refine ⟨_, rfl, ?_⟩
          refine hK.out _ _ ⟨(blk_cell BK146.out 0).trans rfl, (blk_cell BK146.out 1).trans rfl, (blk_cell BK146.out 2).trans rfl⟩ (fun hHeld => ?_)
          clear hK K
          refine norm_ (a' := ?_) ?_ ?_
          rotate_left
          ·show Act.put _ (some 96) _ = _
           simp only [Act.put, setIfInBounds_toArray, set_cons_zero, set_cons_succ, i64_w, i32_w]
           rfl
          refine two_ (i := 9) (j := 11) (Ni := some 99) (Nj := some 18) #[true, true, true, true, true, true, true, true, true, true, false, false, false] #[true, true, true, true, true, true, true, true, true, false, false, true, false] rfl rfl rfl rfl (two_of HT_.out (by kernel_rfl)) (by decide) (by decide) (fun K hK => ?_) (fun K hK => ?_)
          ·skip
           refine goes_ Tryd.func10 (by kernel_rfl) rfl #[.int .i64 a2_2, .int .i64 33] (by rfl) rfl rfl (by (try simp only [List.map_toArray, List.map_cons, List.map_nil]); first | done | rfl | (simp only [List.length_drop, List.length_take]; rfl)) ?_
           with_reducible refine (wageofficelaw02_pick.calls a2_2 33 t162 _ A32.out).mono ?_
           rintro e w' ⟨rfl, ⟨nd, rfl⟩⟩
           refine ⟨_, rfl, ?_⟩
           refine hK.out _ _ ⟨(blk_cell BK146.out 0).trans rfl, (blk_cell BK146.out 1).trans rfl, (blk_cell BK146.out 2).trans rfl⟩ (fun hHeld => ?_)
           clear hK K
           refine norm_ (a' := ?_) ?_ ?_
           rotate_left
           ·show Act.put _ (some 99) _ = _
            simp only [Act.put, setIfInBounds_toArray, set_cons_zero, set_cons_succ, i64_w, i32_w]
            rfl
           refine pure_ (i := 10) (N := some 100) (v := ?_) (a' := ?_) #[true, true, true, true, true, true, true, true, true, true, true, false, false] rfl rfl (any_of HT_.out (by kernel_rfl)) (fun _ _ _ h => h) (Or.inl ⟨by rfl, ?_⟩) ?_ ?_
           rotate_left
           ·intro w'
            go_simp
            with_reducible rfl
           rotate_left
           ·simp only [Act.put, setIfInBounds_toArray, set_cons_zero, set_cons_succ, i64_w, i32_w]
            rfl
           refine one_ (i := 11) (N := some 18) #[true, true, true, true, true, true, true, true, true, true, true, true, false] rfl rfl (one_of HT_.out (by kernel_rfl)) (by decide) (fun K hK => ?_)
           refine box_step ?hg (N := 18) ?hd (cs := #[.int .i64 0, .int .i64 0, .int .i64 0]) (t := 22) ?hr ?_; (case hd => rfl); (case hg => rfl); (case hr => first | (go_simp; done) | (go_simp; rfl))
           intro gb163 hg w51 hbox hb
           have n0_ := Aside0.mk (blk_below (g := gb146) (o := .cells #[.int .i64 a2_0, .int .i64 a2_1, .int .i64 a2_2] 22 (0, 0)) (by (with_reducible repeat (first | refine blk_drewN ?_ _ | refine blk_drew ?_ | refine blk_alloc ?_ _)); exact BK146.out) hb)
           have n1_ := Aside0.mk (below_step (by repeat (first | (with_reducible first | exact HB.out | apply below_alloc | apply pw_below_drewN | apply below_drew1 | refine below_set ?_ GE146.out) | exact HB.out)) hb)
           have n2_ := Aside0.mk (hbox)
           have n3_ := Aside0.mk ((by rw [hg]; exact (below_size (by repeat (first | (with_reducible first | exact HB.out | apply below_alloc | apply pw_below_drewN | apply below_drew1 | refine below_set ?_ GE146.out) | exact HB.out))) : w.heap.size ≤ gb163))
           have n4_ := Aside0.mk ((by rw [hg]; exact (below_size (by repeat (first | (with_reducible first | exact HB.out | apply below_alloc | apply pw_below_drewN | apply below_drew1 | refine below_set ?_ GE146.out) | exact HB.out))) : w.heap.size ≤ gb163))
           have n5_ := Aside0.mk ((by rw [hg]; exact Nat.ne_of_lt (blk_lt (g := gb146) (o := .cells #[.int .i64 a2_0, .int .i64 a2_1, .int .i64 a2_2] 22 (0, 0)) (by (with_reducible repeat (first | refine blk_drewN ?_ _ | refine blk_drew ?_ | refine blk_alloc ?_ _)); exact BK146.out)) : gb146 ≠ gb163))
           have n6_ := Aside0.mk ((by rw [hg]; exact Nat.ne_of_gt (blk_lt (g := gb146) (o := .cells #[.int .i64 a2_0, .int .i64 a2_1, .int .i64 a2_2] 22 (0, 0)) (by (with_reducible repeat (first | refine blk_drewN ?_ _ | refine blk_drew ?_ | refine blk_alloc ?_ _)); exact BK146.out)) : gb163 ≠ gb146))
           clear BK146
           clear HB
           have BK146 := n0_
           have HB := n1_
           have BK163 := n2_
           have GW163 := n3_
           have GE163 := n4_
           have NB146_163 := n5_
           have NB163_146 := n6_
           clear n0_ n1_ n2_ n3_ n4_ n5_ n6_
           clear hb hbox hg
           refine hK.out _ _ ⟨(blk_cell BK146.out 0).trans rfl, (blk_cell BK146.out 1).trans rfl, (blk_cell BK146.out 2).trans rfl⟩ (fun hHeld => ?_)
           clear hK K
           refine norm_ (a' := ?_) ?_ ?_
           rotate_left
           ·show Act.put _ (some 18) _ = _
            simp only [Act.put, setIfInBounds_toArray, set_cons_zero, set_cons_succ, i64_w, i32_w]
            rfl
           exact norm_ (by simp only [putAll, Act.put, setIfInBounds_toArray, set_cons_zero, set_cons_succ]) (hCont (gb163) _ ⟨hHeld, (by (with_reducible repeat (first | refine blk_drewN ?_ _ | refine blk_drew ?_ | refine blk_alloc ?_ _)); exact BK146.out), (by (with_reducible repeat (first | refine blk_drewN ?_ _ | refine blk_drew ?_ | refine blk_alloc ?_ _)); exact BK163.out), GW163.out, GE163.out, NB146_163.out, NB163_146.out, (by repeat (first | (with_reducible first | exact HB.out | apply below_alloc | apply pw_below_drewN | apply below_drew1 | refine below_set ?_ GE146.out | refine below_set ?_ GE163.out) | exact HB.out))⟩)
          ·skip
           refine box_step ?hg (N := 18) ?hd (cs := #[.int .i64 0, .int .i64 0, .int .i64 0]) (t := 22) ?hr ?_; (case hd => rfl); (case hg => rfl); (case hr => first | (go_simp; done) | (go_simp; rfl))
           intro gb163 hg w51 hbox hb
           have n0_ := Aside0.mk (blk_below (g := gb146) (o := .cells #[.int .i64 a2_0, .int .i64 a2_1, .int .i64 a2_2] 22 (0, 0)) (by (with_reducible repeat (first | refine blk_drewN ?_ _ | refine blk_drew ?_ | refine blk_alloc ?_ _)); exact BK146.out) hb)
           have n1_ := Aside0.mk (below_step (by repeat (first | (with_reducible first | exact HB.out | apply below_alloc | apply pw_below_drewN | apply below_drew1 | refine below_set ?_ GE146.out) | exact HB.out)) hb)
           have n2_ := Aside0.mk (hbox)
           have n3_ := Aside0.mk ((by rw [hg]; exact (below_size (by repeat (first | (with_reducible first | exact HB.out | apply below_alloc | apply pw_below_drewN | apply below_drew1 | refine below_set ?_ GE146.out) | exact HB.out))) : w.heap.size ≤ gb163))
           have n4_ := Aside0.mk ((by rw [hg]; exact (below_size (by repeat (first | (with_reducible first | exact HB.out | apply below_alloc | apply pw_below_drewN | apply below_drew1 | refine below_set ?_ GE146.out) | exact HB.out))) : w.heap.size ≤ gb163))
           have n5_ := Aside0.mk ((by rw [hg]; exact Nat.ne_of_lt (blk_lt (g := gb146) (o := .cells #[.int .i64 a2_0, .int .i64 a2_1, .int .i64 a2_2] 22 (0, 0)) (by (with_reducible repeat (first | refine blk_drewN ?_ _ | refine blk_drew ?_ | refine blk_alloc ?_ _)); exact BK146.out)) : gb146 ≠ gb163))
           have n6_ := Aside0.mk ((by rw [hg]; exact Nat.ne_of_gt (blk_lt (g := gb146) (o := .cells #[.int .i64 a2_0, .int .i64 a2_1, .int .i64 a2_2] 22 (0, 0)) (by (with_reducible repeat (first | refine blk_drewN ?_ _ | refine blk_drew ?_ | refine blk_alloc ?_ _)); exact BK146.out)) : gb163 ≠ gb146))
           clear BK146
           clear HB
           have BK146 := n0_
           have HB := n1_
           have BK163 := n2_
           have GW163 := n3_
           have GE163 := n4_
           have NB146_163 := n5_
           have NB163_146 := n6_
           clear n0_ n1_ n2_ n3_ n4_ n5_ n6_
           clear hb hbox hg
           refine hK.out _ _ ⟨(blk_cell BK146.out 0).trans rfl, (blk_cell BK146.out 1).trans rfl, (blk_cell BK146.out 2).trans rfl⟩ (fun hHeld => ?_)
           clear hK K
           refine norm_ (a' := ?_) ?_ ?_
           rotate_left
           ·show Act.put _ (some 18) _ = _
            simp only [Act.put, setIfInBounds_toArray, set_cons_zero, set_cons_succ, i64_w, i32_w]
            rfl
           refine one_ (i := 9) (N := some 99) #[true, true, true, true, true, true, true, true, true, true, false, true, false] rfl rfl (one_of HT_.out (by kernel_rfl)) (by decide) (fun K hK => ?_)
           refine goes_ Tryd.func10 (by kernel_rfl) rfl #[.int .i64 a2_2, .int .i64 33] (by rfl) rfl rfl (by (try simp only [List.map_toArray, List.map_cons, List.map_nil]); first | done | rfl | (simp only [List.length_drop, List.length_take]; rfl)) ?_
           with_reducible refine (wageofficelaw02_pick.calls a2_2 33 t162 _ A32.out).mono ?_
           rintro e w' ⟨rfl, ⟨nd, rfl⟩⟩
           refine ⟨_, rfl, ?_⟩
           refine hK.out _ _ ⟨(blk_cell BK146.out 0).trans rfl, (blk_cell BK146.out 1).trans rfl, (blk_cell BK146.out 2).trans rfl⟩ (fun hHeld => ?_)
           clear hK K
           refine norm_ (a' := ?_) ?_ ?_
           rotate_left
           ·show Act.put _ (some 99) _ = _
            simp only [Act.put, setIfInBounds_toArray, set_cons_zero, set_cons_succ, i64_w, i32_w]
            rfl
           refine pure_ (i := 10) (N := some 100) (v := ?_) (a' := ?_) #[true, true, true, true, true, true, true, true, true, true, true, true, false] rfl rfl (any_of HT_.out (by kernel_rfl)) (fun _ _ _ h => h) (Or.inl ⟨by rfl, ?_⟩) ?_ ?_
           rotate_left
           ·intro w'
            go_simp
            with_reducible rfl
           rotate_left
           ·simp only [Act.put, setIfInBounds_toArray, set_cons_zero, set_cons_succ, i64_w, i32_w]
            rfl
           exact norm_ (by simp only [putAll, Act.put, setIfInBounds_toArray, set_cons_zero, set_cons_succ]) (hCont (gb163) _ ⟨hHeld, (by (with_reducible repeat (first | refine blk_drewN ?_ _ | refine blk_drew ?_ | refine blk_alloc ?_ _)); exact BK146.out), (by (with_reducible repeat (first | refine blk_drewN ?_ _ | refine blk_drew ?_ | refine blk_alloc ?_ _)); exact BK163.out), GW163.out, GE163.out, NB146_163.out, NB163_146.out, (by repeat (first | (with_reducible first | exact HB.out | apply below_alloc | apply pw_below_drewN | apply below_drew1 | refine below_set ?_ GE146.out | refine below_set ?_ GE163.out) | exact HB.out))⟩)
         ·skip
          refine box_step ?hg (N := 18) ?hd (cs := #[.int .i64 0, .int .i64 0, .int .i64 0]) (t := 22) ?hr ?_; (case hd => rfl); (case hg => rfl); (case hr => first | (go_simp; done) | (go_simp; rfl))
          intro gb163 hg w51 hbox hb
          have n0_ := Aside0.mk (blk_below (g := gb146) (o := .cells #[.int .i64 a2_0, .int .i64 a2_1, .int .i64 a2_2] 22 (0, 0)) (by (with_reducible repeat (first | refine blk_drewN ?_ _ | refine blk_drew ?_ | refine blk_alloc ?_ _)); exact BK146.out) hb)
          have n1_ := Aside0.mk (below_step (by repeat (first | (with_reducible first | exact HB.out | apply below_alloc | apply pw_below_drewN | apply below_drew1 | refine below_set ?_ GE146.out) | exact HB.out)) hb)
          have n2_ := Aside0.mk (hbox)
          have n3_ := Aside0.mk ((by rw [hg]; exact (below_size (by repeat (first | (with_reducible first | exact HB.out | apply below_alloc | apply pw_below_drewN | apply below_drew1 | refine below_set ?_ GE146.out) | exact HB.out))) : w.heap.size ≤ gb163))
          have n4_ := Aside0.mk ((by rw [hg]; exact (below_size (by repeat (first | (with_reducible first | exact HB.out | apply below_alloc | apply pw_below_drewN | apply below_drew1 | refine below_set ?_ GE146.out) | exact HB.out))) : w.heap.size ≤ gb163))
          have n5_ := Aside0.mk ((by rw [hg]; exact Nat.ne_of_lt (blk_lt (g := gb146) (o := .cells #[.int .i64 a2_0, .int .i64 a2_1, .int .i64 a2_2] 22 (0, 0)) (by (with_reducible repeat (first | refine blk_drewN ?_ _ | refine blk_drew ?_ | refine blk_alloc ?_ _)); exact BK146.out)) : gb146 ≠ gb163))
          have n6_ := Aside0.mk ((by rw [hg]; exact Nat.ne_of_gt (blk_lt (g := gb146) (o := .cells #[.int .i64 a2_0, .int .i64 a2_1, .int .i64 a2_2] 22 (0, 0)) (by (with_reducible repeat (first | refine blk_drewN ?_ _ | refine blk_drew ?_ | refine blk_alloc ?_ _)); exact BK146.out)) : gb163 ≠ gb146))
          clear BK146
          clear HB
          have BK146 := n0_
          have HB := n1_
          have BK163 := n2_
          have GW163 := n3_
          have GE163 := n4_
          have NB146_163 := n5_
          have NB163_146 := n6_
          clear n0_ n1_ n2_ n3_ n4_ n5_ n6_
          clear hb hbox hg
          refine hK.out _ _ ⟨(blk_cell BK146.out 0).trans rfl, (blk_cell BK146.out 1).trans rfl, (blk_cell BK146.out 2).trans rfl⟩ (fun hHeld => ?_)
          clear hK K
          refine norm_ (a' := ?_) ?_ ?_
          rotate_left
          ·show Act.put _ (some 18) _ = _
           simp only [Act.put, setIfInBounds_toArray, set_cons_zero, set_cons_succ, i64_w, i32_w]
           rfl
          refine one_ (i := 6) (N := some 96) #[true, true, true, true, true, true, true, true, true, false, false, true, false] rfl rfl (one_of HT_.out (by kernel_rfl)) (by decide) (fun K hK => ?_)
          refine goes_ Tryd.func10 (by kernel_rfl) rfl #[.int .i64 a2_1, .int .i64 14] (by rfl) rfl rfl (by (try simp only [List.map_toArray, List.map_cons, List.map_nil]); first | done | rfl | (simp only [List.length_drop, List.length_take]; rfl)) ?_
          with_reducible refine (wageofficelaw02_pick.calls a2_1 14 t161 _ A31.out).mono ?_
          rintro e w' ⟨rfl, ⟨nd, rfl⟩⟩
          refine ⟨_, rfl, ?_⟩
          refine hK.out _ _ ⟨(blk_cell BK146.out 0).trans rfl, (blk_cell BK146.out 1).trans rfl, (blk_cell BK146.out 2).trans rfl⟩ (fun hHeld => ?_)
          clear hK K
          refine norm_ (a' := ?_) ?_ ?_
          rotate_left
          ·show Act.put _ (some 96) _ = _
           simp only [Act.put, setIfInBounds_toArray, set_cons_zero, set_cons_succ, i64_w, i32_w]
           rfl
          refine one_ (i := 9) (N := some 99) #[true, true, true, true, true, true, true, true, true, true, false, true, false] rfl rfl (one_of HT_.out (by kernel_rfl)) (by decide) (fun K hK => ?_)
          refine goes_ Tryd.func10 (by kernel_rfl) rfl #[.int .i64 a2_2, .int .i64 33] (by rfl) rfl rfl (by (try simp only [List.map_toArray, List.map_cons, List.map_nil]); first | done | rfl | (simp only [List.length_drop, List.length_take]; rfl)) ?_
          with_reducible refine (wageofficelaw02_pick.calls a2_2 33 t162 _ A32.out).mono ?_
          rintro e w' ⟨rfl, ⟨nd, rfl⟩⟩
          refine ⟨_, rfl, ?_⟩
          refine hK.out _ _ ⟨(blk_cell BK146.out 0).trans rfl, (blk_cell BK146.out 1).trans rfl, (blk_cell BK146.out 2).trans rfl⟩ (fun hHeld => ?_)
          clear hK K
          refine norm_ (a' := ?_) ?_ ?_
          rotate_left
          ·show Act.put _ (some 99) _ = _
           simp only [Act.put, setIfInBounds_toArray, set_cons_zero, set_cons_succ, i64_w, i32_w]
           rfl
          refine pure_ (i := 10) (N := some 100) (v := ?_) (a' := ?_) #[true, true, true, true, true, true, true, true, true, true, true, true, false] rfl rfl (any_of HT_.out (by kernel_rfl)) (fun _ _ _ h => h) (Or.inl ⟨by rfl, ?_⟩) ?_ ?_
          rotate_left
          ·intro w'
           go_simp
           with_reducible rfl
          rotate_left
          ·simp only [Act.put, setIfInBounds_toArray, set_cons_zero, set_cons_succ, i64_w, i32_w]
           rfl
          exact norm_ (by simp only [putAll, Act.put, setIfInBounds_toArray, set_cons_zero, set_cons_succ]) (hCont (gb163) _ ⟨hHeld, (by (with_reducible repeat (first | refine blk_drewN ?_ _ | refine blk_drew ?_ | refine blk_alloc ?_ _)); exact BK146.out), (by (with_reducible repeat (first | refine blk_drewN ?_ _ | refine blk_drew ?_ | refine blk_alloc ?_ _)); exact BK163.out), GW163.out, GE163.out, NB146_163.out, NB163_146.out, (by repeat (first | (with_reducible first | exact HB.out | apply below_alloc | apply pw_below_drewN | apply below_drew1 | refine below_set ?_ GE146.out | refine below_set ?_ GE163.out) | exact HB.out))⟩)
        ·skip
         refine box_step ?hg (N := 18) ?hd (cs := #[.int .i64 0, .int .i64 0, .int .i64 0]) (t := 22) ?hr ?_; (case hd => rfl); (case hg => rfl); (case hr => first | (go_simp; done) | (go_simp; rfl))
         intro gb163 hg w51 hbox hb
         have n0_ := Aside0.mk (blk_below (g := gb146) (o := .cells #[.int .i64 a2_0, .int .i64 a2_1, .int .i64 a2_2] 22 (0, 0)) (by (with_reducible repeat (first | refine blk_drewN ?_ _ | refine blk_drew ?_ | refine blk_alloc ?_ _)); exact BK146.out) hb)
         have n1_ := Aside0.mk (below_step (by repeat (first | (with_reducible first | exact HB.out | apply below_alloc | apply pw_below_drewN | apply below_drew1 | refine below_set ?_ GE146.out) | exact HB.out)) hb)
         have n2_ := Aside0.mk (hbox)
         have n3_ := Aside0.mk ((by rw [hg]; exact (below_size (by repeat (first | (with_reducible first | exact HB.out | apply below_alloc | apply pw_below_drewN | apply below_drew1 | refine below_set ?_ GE146.out) | exact HB.out))) : w.heap.size ≤ gb163))
         have n4_ := Aside0.mk ((by rw [hg]; exact (below_size (by repeat (first | (with_reducible first | exact HB.out | apply below_alloc | apply pw_below_drewN | apply below_drew1 | refine below_set ?_ GE146.out) | exact HB.out))) : w.heap.size ≤ gb163))
         have n5_ := Aside0.mk ((by rw [hg]; exact Nat.ne_of_lt (blk_lt (g := gb146) (o := .cells #[.int .i64 a2_0, .int .i64 a2_1, .int .i64 a2_2] 22 (0, 0)) (by (with_reducible repeat (first | refine blk_drewN ?_ _ | refine blk_drew ?_ | refine blk_alloc ?_ _)); exact BK146.out)) : gb146 ≠ gb163))
         have n6_ := Aside0.mk ((by rw [hg]; exact Nat.ne_of_gt (blk_lt (g := gb146) (o := .cells #[.int .i64 a2_0, .int .i64 a2_1, .int .i64 a2_2] 22 (0, 0)) (by (with_reducible repeat (first | refine blk_drewN ?_ _ | refine blk_drew ?_ | refine blk_alloc ?_ _)); exact BK146.out)) : gb163 ≠ gb146))
         clear BK146
         clear HB
         have BK146 := n0_
         have HB := n1_
         have BK163 := n2_
         have GW163 := n3_
         have GE163 := n4_
         have NB146_163 := n5_
         have NB163_146 := n6_
         clear n0_ n1_ n2_ n3_ n4_ n5_ n6_
         clear hb hbox hg
         refine hK.out _ _ ⟨(blk_cell BK146.out 0).trans rfl, (blk_cell BK146.out 1).trans rfl, (blk_cell BK146.out 2).trans rfl⟩ (fun hHeld => ?_)
         clear hK K
         refine norm_ (a' := ?_) ?_ ?_
         rotate_left
         ·show Act.put _ (some 18) _ = _
          simp only [Act.put, setIfInBounds_toArray, set_cons_zero, set_cons_succ, i64_w, i32_w]
          rfl
         refine one_ (i := 2) (N := some 92) #[true, true, true, false, true, true, false, true, true, false, false, true, false] rfl rfl (one_of HT_.out (by kernel_rfl)) (by decide) (fun K hK => ?_)
         refine goes_ Tryd.func10 (by kernel_rfl) rfl #[.int .i64 a2_0, .int .i64 102] (by rfl) rfl rfl (by (try simp only [List.map_toArray, List.map_cons, List.map_nil]); first | done | rfl | (simp only [List.length_drop, List.length_take]; rfl)) ?_
         with_reducible refine (wageofficelaw02_pick.calls a2_0 102 t160 _ A30.out).mono ?_
         rintro e w' ⟨rfl, ⟨nd, rfl⟩⟩
         refine ⟨_, rfl, ?_⟩
         refine hK.out _ _ ⟨(blk_cell BK146.out 0).trans rfl, (blk_cell BK146.out 1).trans rfl, (blk_cell BK146.out 2).trans rfl⟩ (fun hHeld => ?_)
         clear hK K
         refine norm_ (a' := ?_) ?_ ?_
         rotate_left
         ·show Act.put _ (some 92) _ = _
          simp only [Act.put, setIfInBounds_toArray, set_cons_zero, set_cons_succ, i64_w, i32_w]
          rfl
         refine pure_ (i := 3) (N := some 93) (v := ?_) (a' := ?_) #[true, true, true, true, true, true, false, true, true, false, false, true, false] rfl rfl (any_of HT_.out (by kernel_rfl)) (fun _ _ _ h => h) (Or.inl ⟨by rfl, ?_⟩) ?_ ?_
         rotate_left
         ·intro w'
          go_simp
          with_reducible rfl
         rotate_left
         ·simp only [Act.put, setIfInBounds_toArray, set_cons_zero, set_cons_succ, i64_w, i32_w]
          rfl
         refine one_ (i := 6) (N := some 96) #[true, true, true, true, true, true, true, true, true, false, false, true, false] rfl rfl (one_of HT_.out (by kernel_rfl)) (by decide) (fun K hK => ?_)
         refine goes_ Tryd.func10 (by kernel_rfl) rfl #[.int .i64 a2_1, .int .i64 14] (by rfl) rfl rfl (by (try simp only [List.map_toArray, List.map_cons, List.map_nil]); first | done | rfl | (simp only [List.length_drop, List.length_take]; rfl)) ?_
         with_reducible refine (wageofficelaw02_pick.calls a2_1 14 t161 _ A31.out).mono ?_
         rintro e w' ⟨rfl, ⟨nd, rfl⟩⟩
         refine ⟨_, rfl, ?_⟩
         refine hK.out _ _ ⟨(blk_cell BK146.out 0).trans rfl, (blk_cell BK146.out 1).trans rfl, (blk_cell BK146.out 2).trans rfl⟩ (fun hHeld => ?_)
         clear hK K
         refine norm_ (a' := ?_) ?_ ?_
         rotate_left
         ·show Act.put _ (some 96) _ = _
          simp only [Act.put, setIfInBounds_toArray, set_cons_zero, set_cons_succ, i64_w, i32_w]
          rfl
         refine one_ (i := 9) (N := some 99) #[true, true, true, true, true, true, true, true, true, true, false, true, false] rfl rfl (one_of HT_.out (by kernel_rfl)) (by decide) (fun K hK => ?_)
         refine goes_ Tryd.func10 (by kernel_rfl) rfl #[.int .i64 a2_2, .int .i64 33] (by rfl) rfl rfl (by (try simp only [List.map_toArray, List.map_cons, List.map_nil]); first | done | rfl | (simp only [List.length_drop, List.length_take]; rfl)) ?_
         with_reducible refine (wageofficelaw02_pick.calls a2_2 33 t162 _ A32.out).mono ?_
         rintro e w' ⟨rfl, ⟨nd, rfl⟩⟩
         refine ⟨_, rfl, ?_⟩
         refine hK.out _ _ ⟨(blk_cell BK146.out 0).trans rfl, (blk_cell BK146.out 1).trans rfl, (blk_cell BK146.out 2).trans rfl⟩ (fun hHeld => ?_)
         clear hK K
         refine norm_ (a' := ?_) ?_ ?_
         rotate_left
         ·show Act.put _ (some 99) _ = _
          simp only [Act.put, setIfInBounds_toArray, set_cons_zero, set_cons_succ, i64_w, i32_w]
          rfl
         refine pure_ (i := 10) (N := some 100) (v := ?_) (a' := ?_) #[true, true, true, true, true, true, true, true, true, true, true, true, false] rfl rfl (any_of HT_.out (by kernel_rfl)) (fun _ _ _ h => h) (Or.inl ⟨by rfl, ?_⟩) ?_ ?_
         rotate_left
         ·intro w'
          go_simp
          with_reducible rfl
         rotate_left
         ·simp only [Act.put, setIfInBounds_toArray, set_cons_zero, set_cons_succ, i64_w, i32_w]
          rfl
         exact norm_ (by simp only [putAll, Act.put, setIfInBounds_toArray, set_cons_zero, set_cons_succ]) (hCont (gb163) _ ⟨hHeld, (by (with_reducible repeat (first | refine blk_drewN ?_ _ | refine blk_drew ?_ | refine blk_alloc ?_ _)); exact BK146.out), (by (with_reducible repeat (first | refine blk_drewN ?_ _ | refine blk_drew ?_ | refine blk_alloc ?_ _)); exact BK163.out), GW163.out, GE163.out, NB146_163.out, NB163_146.out, (by repeat (first | (with_reducible first | exact HB.out | apply below_alloc | apply pw_below_drewN | apply below_drew1 | refine below_set ?_ GE146.out | refine below_set ?_ GE163.out) | exact HB.out))⟩)
       rintro gb163 w52 ⟨hS_, h0_, h1_, h2_, h3_, h4_, h5_, h6_⟩
       have n0_ : Aside0 (w52.heap[gb146]? = some (.cells #[.int .i64 a2_0, .int .i64 a2_1, .int .i64 a2_2] 22 (0, 0))) := ⟨h0_⟩
       have n1_ : Aside0 (w52.heap[gb163]? = some (.cells #[.int .i64 0, .int .i64 0, .int .i64 0] 22 (0, 0))) := ⟨h1_⟩
       have n2_ : Aside0 (w.heap.size ≤ gb163) := ⟨h2_⟩
       have n3_ : Aside0 (w.heap.size ≤ gb163) := ⟨h3_⟩
       have n4_ : Aside0 (gb146 ≠ gb163) := ⟨h4_⟩
       have n5_ : Aside0 (gb163 ≠ gb146) := ⟨h5_⟩
       have n6_ : Aside0 (Below w.heap.size w w52) := ⟨h6_⟩
       clear BK146
       clear HB
       clear h0_ h1_ h2_ h3_ h4_ h5_ h6_
       have BK146 := n0_
       have BK163 := n1_
       have GW163 := n2_
       have GE163 := n3_
       have NB146_163 := n4_
       have NB163_146 := n5_
       have HB := n6_
       clear n0_ n1_ n2_ n3_ n4_ n5_ n6_
       have hHeld : w52.cell? ⟨gb146, 0, none⟩ = some (.int .i64 a2_0) ∧ w52.cell? ⟨gb146, 1, none⟩ = some (.int .i64 a2_1) ∧ w52.cell? ⟨gb146, 2, none⟩ = some (.int .i64 a2_2) := hS_
       refine norm_ (a' := ?_) ?_ ?_
       rotate_left
       ·simp only [putAll, Act.put, setIfInBounds_toArray, set_cons_zero, set_cons_succ]
        rfl
       refine one_ (i := 12) (N := none) #[true, true, true, true, true, true, true, true, true, true, true, true, true] rfl rfl (one_of HT_.out (by kernel_rfl)) (by decide) (fun K hK => ?_)
       have hs53 : w52.cell? ⟨gb163, 0, none⟩ = some (.int .i64 0) := (blk_cell BK163.out 0).trans rfl
       have hfs53 := blk_frozen BK163.out 0
       have hns53_0 := NB146_163.out
       have hms53_0 := NB163_146.out
       have hs54 : w52.cell? ⟨gb163, 1, none⟩ = some (.int .i64 0) := (blk_cell BK163.out 1).trans rfl
       have hfs54 := blk_frozen BK163.out 1
       have hns54_0 := NB146_163.out
       have hms54_0 := NB163_146.out
       have hs55 : w52.cell? ⟨gb163, 2, none⟩ = some (.int .i64 0) := (blk_cell BK163.out 2).trans rfl
       have hfs55 := blk_frozen BK163.out 2
       have hns55_0 := NB146_163.out
       have hms55_0 := NB163_146.out
       refine skip_ (w1 := ?_) (by rfl) rfl ?_ ?_
       rotate_left
       ·go_simp
        rfl
       refine hK.out _ _ ⟨((cell_far (p := ⟨gb163, _, none⟩) NB146_163.out _).trans (((cell_far (p := ⟨gb163, _, none⟩) NB146_163.out _).trans (((cell_far (p := ⟨gb163, _, none⟩) NB146_163.out _).trans (hHeld.1)))))), ((cell_far (p := ⟨gb163, _, none⟩) NB146_163.out _).trans (((cell_far (p := ⟨gb163, _, none⟩) NB146_163.out _).trans (((cell_far (p := ⟨gb163, _, none⟩) NB146_163.out _).trans (hHeld.2.1)))))), ((cell_far (p := ⟨gb163, _, none⟩) NB146_163.out _).trans (((cell_far (p := ⟨gb163, _, none⟩) NB146_163.out _).trans (((cell_far (p := ⟨gb163, _, none⟩) NB146_163.out _).trans (hHeld.2.2))))))⟩ (fun hHeld => ?_)
       clear hK K
       refine done_ (done_of HT_.out (by kernel_rfl)) ?_
       have hnb56 := NB163_146.out
       have hnc56 := NB146_163.out
       have hcz57_0 : w52.cell? ⟨gb163, 0, none⟩ = some (.int .i64 0) := (blk_cell BK163.out 0).trans rfl
       have hcz57_1 : w52.cell? ⟨gb163, 1, none⟩ = some (.int .i64 0) := (blk_cell BK163.out 1).trans rfl
       have hcz57_2 : w52.cell? ⟨gb163, 2, none⟩ = some (.int .i64 0) := (blk_cell BK163.out 2).trans rfl
       have hfz57_0 := blk_frozen BK163.out 0
       have hfz57_1 := blk_frozen BK163.out 1
       have hfz57_2 := blk_frozen BK163.out 2
       try go_wp2_with (first | ((with_reducible refine gate_callee (f := 25) rfl ?_); refine goesL_ (some 108) rfl rfl Tryd.func25 (by kernel_rfl) rfl #[.int .i64 (wrap64 (1999 + t160)), .int .i64 t161, .int .i64 t162] rfl (by (try simp only [List.map_toArray, List.map_cons, List.map_nil]); first | done | rfl | (simp only [List.length_drop, List.length_take]; rfl)) ?_; (with_reducible refine (calendar_Day.calls (wrap64 (1999 + t160)) t161 t162 t164 t165 _ A33.out (TabBefore.below hTBefore.out (by repeat (first | exact HB.out | apply below_alloc | apply pw_below_drewN | apply below_drew1 | refine below_set ?_ GE146.out | refine below_set ?_ GE163.out)))).mono ?_); rintro e w58 ⟨rfl, hb⟩; refine ⟨_, rfl, ?_⟩; have n0_ := Aside0.mk (blk_below (g := gb146) (o := .cells #[.int .i64 a2_0, .int .i64 a2_1, .int .i64 a2_2] 22 (0, 0)) (by (with_reducible repeat (first | refine blk_drewN ?_ _ | refine blk_drew ?_ | refine blk_alloc ?_ _)); refine blk_far ?_ NB146_163.out _; (with_reducible repeat (first | refine blk_drewN ?_ _ | refine blk_drew ?_ | refine blk_alloc ?_ _)); refine blk_far ?_ NB146_163.out _; (with_reducible repeat (first | refine blk_drewN ?_ _ | refine blk_drew ?_ | refine blk_alloc ?_ _)); refine blk_far ?_ NB146_163.out _; (with_reducible repeat (first | refine blk_drewN ?_ _ | refine blk_drew ?_ | refine blk_alloc ?_ _)); exact BK146.out) hb); have n1_ := Aside0.mk (blk_below (g := gb163) (o := .cells #[.int .i64 (wrap64 (1999 + t160)), .int .i64 t161, .int .i64 t162] 22 (0, 0)) (by (with_reducible repeat (first | refine blk_drewN ?_ _ | refine blk_drew ?_ | refine blk_alloc ?_ _)); refine blk_put (cs := #[.int .i64 (wrap64 (1999 + t160)), .int .i64 t161, .int .i64 0]) ?_ 2 _ rfl; (with_reducible repeat (first | refine blk_drewN ?_ _ | refine blk_drew ?_ | refine blk_alloc ?_ _)); refine blk_put (cs := #[.int .i64 (wrap64 (1999 + t160)), .int .i64 0, .int .i64 0]) ?_ 1 _ rfl; (with_reducible repeat (first | refine blk_drewN ?_ _ | refine blk_drew ?_ | refine blk_alloc ?_ _)); refine blk_put (cs := #[.int .i64 0, .int .i64 0, .int .i64 0]) ?_ 0 _ rfl; (with_reducible repeat (first | refine blk_drewN ?_ _ | refine blk_drew ?_ | refine blk_alloc ?_ _)); exact BK163.out) hb); have n2_ := Aside0.mk (below_step (by repeat (first | (with_reducible first | exact HB.out | apply below_alloc | apply pw_below_drewN | apply below_drew1 | refine below_set ?_ GE146.out | refine below_set ?_ GE163.out) | exact HB.out)) hb); clear BK146; clear BK163; clear HB; have BK146 := n0_; have BK163 := n1_; have HB := n2_; clear n0_ n1_ n2_; (try clear hb); (try clear hb2); (try clear hk); (try clear hi)) | ((with_reducible refine gate_callee (f := 11) rfl ?_); refine goesL_ (some 124) rfl rfl Tryd.func11 (by kernel_rfl) rfl #[.int .i64 t164] rfl (by (try simp only [List.map_toArray, List.map_cons, List.map_nil]); first | done | rfl | (simp only [List.length_drop, List.length_take]; rfl)) ?_; (with_reducible refine (calendar_Date.calls t164 t166 t167 t168 _ A35.out (TabBefore.below hTBefore.out (by repeat (first | exact HB.out | apply below_alloc | apply pw_below_drewN | apply below_drew1 | refine below_set ?_ GE146.out | refine below_set ?_ GE163.out)))).mono ?_); rintro e w59 ⟨rfl, hb⟩; refine ⟨_, rfl, ?_⟩; have n0_ := Aside0.mk (blk_below (g := gb146) (o := .cells #[.int .i64 a2_0, .int .i64 a2_1, .int .i64 a2_2] 22 (0, 0)) (by (with_reducible repeat (first | refine blk_drewN ?_ _ | refine blk_drew ?_ | refine blk_alloc ?_ _)); exact BK146.out) hb); have n1_ := Aside0.mk (blk_below (g := gb163) (o := .cells #[.int .i64 (wrap64 (1999 + t160)), .int .i64 t161, .int .i64 t162] 22 (0, 0)) (by (with_reducible repeat (first | refine blk_drewN ?_ _ | refine blk_drew ?_ | refine blk_alloc ?_ _)); exact BK163.out) hb); have n2_ := Aside0.mk (below_step (by repeat (first | (with_reducible first | exact HB.out | apply below_alloc | apply pw_below_drewN | apply below_drew1 | refine below_set ?_ GE146.out | refine below_set ?_ GE163.out) | exact HB.out)) hb); clear BK146; clear BK163; clear HB; have BK146 := n0_; have BK163 := n1_; have HB := n2_; clear n0_ n1_ n2_; (try clear hb); (try clear hb2); (try clear hk); (try clear hi); have hcz60_0 : w59.cell? ⟨gb163, 0, none⟩ = some (.int .i64 (wrap64 (1999 + t160))) := (blk_cell BK163.out 0).trans rfl; have hcz60_1 : w59.cell? ⟨gb163, 1, none⟩ = some (.int .i64 t161) := (blk_cell BK163.out 1).trans rfl; have hcz60_2 : w59.cell? ⟨gb163, 2, none⟩ = some (.int .i64 t162) := (blk_cell BK163.out 2).trans rfl; have hfz60_0 := blk_frozen BK163.out 0; have hfz60_1 := blk_frozen BK163.out 1; have hfz60_2 := blk_frozen BK163.out 2))
       go_ret
       exact ⟨by first | rfl | (simp [errW_none, errW_some] <;> rfl) | (simp [*, errW_none, errW_some] <;> rfl), by repeat (first | (with_reducible first | exact HB.out | apply below_alloc | apply pw_below_drewN | apply below_drew1 | refine below_set ?_ GE146.out | refine below_set ?_ GE163.out) | exact HB.out)⟩
     ·rw [if_neg c37] at H
      have c37b0 : (t166 == (wrap64 (1999 + t160))) = false := beq_eq_false_iff_ne.mpr c37
      have c37b1 : (t166 != (wrap64 (1999 + t160))) = true := bne_iff_ne.mpr c37
      obtain rfl := Option.some.inj H
      try go_wp2
      have n0_ := Aside0.mk (blk_drew BK146.out)
      have n1_ := Aside0.mk (below_drew1 HB.out)
      clear BK146
      clear HB
      have BK146 := n0_
      have HB := n1_
      clear n0_ n1_
      refine start_ (n := 13) (S := fun w' => w'.cell? ⟨gb146, 0, none⟩ = some (.int .i64 a2_0) ∧ w'.cell? ⟨gb146, 1, none⟩ = some (.int .i64 a2_1) ∧ w'.cell? ⟨gb146, 2, none⟩ = some (.int .i64 a2_2)) (ds := []) #[false, false, false, false, false, false, false, false, false, false, false, false, false] (by kernel_rfl) rfl rfl ⟨(blk_cell BK146.out 0).trans rfl, (blk_cell BK146.out 1).trans rfl, (blk_cell BK146.out 2).trans rfl⟩ (fun hHeld => ?_); refine with_tabW CI.tab9 CI.bits9 (fun HT_ HW_ => ?_)
      generalize wc.drew = w61 at BK146 HB hHeld ⊢
      refine pure_ (i := 0) (N := some 90) (v := ?_) (a' := ?_) #[true, false, false, false, false, false, false, false, false, false, false, false, false] rfl rfl (any_of HT_.out (by kernel_rfl)) (fun _ _ _ h => h) (Or.inl ⟨by rfl, ?_⟩) ?_ ?_
      rotate_left
      ·intro w'
       go_simp
       with_reducible rfl
      rotate_left
      ·simp only [Act.put, setIfInBounds_toArray, set_cons_zero, set_cons_succ, i64_w, i32_w]
       rfl
      refine pure_ (i := 4) (N := some 94) (v := ?_) (a' := ?_) #[true, false, false, false, true, false, false, false, false, false, false, false, false] rfl rfl (any_of HT_.out (by kernel_rfl)) (fun _ _ _ h => h) (Or.inl ⟨by rfl, ?_⟩) ?_ ?_
      rotate_left
      ·intro w'
       go_simp
       with_reducible rfl
      rotate_left
      ·simp only [Act.put, setIfInBounds_toArray, set_cons_zero, set_cons_succ, i64_w, i32_w]
       rfl
      refine pure_ (i := 7) (N := some 97) (v := ?_) (a' := ?_) #[true, false, false, false, true, false, false, true, false, false, false, false, false] rfl rfl (any_of HT_.out (by kernel_rfl)) (fun _ _ _ h => h) (Or.inl ⟨by rfl, ?_⟩) ?_ ?_
      rotate_left
      ·intro w'
       go_simp
       with_reducible rfl
      rotate_left
      ·simp only [Act.put, setIfInBounds_toArray, set_cons_zero, set_cons_succ, i64_w, i32_w]
       rfl
      refine take_ (i := 1) (N := some 91) (v := ?_) (a' := ?_) #[true, true, false, false, true, false, false, true, false, false, false, false, false] rfl rfl (take_ofW HT_.out HW_.out (by kernel_rfl)) (fun _ _ _ h => h) (Or.inl ⟨by rfl, ?_⟩) hHeld ?_ ?_
      rotate_left
      ·rintro w' ⟨s0, s1, s2⟩
       go_simp
       with_reducible rfl
      rotate_left
      ·simp only [Act.put, setIfInBounds_toArray, set_cons_zero, set_cons_succ, i64_w, i32_w]
       rfl
      refine take_ (i := 5) (N := some 95) (v := ?_) (a' := ?_) #[true, true, false, false, true, true, false, true, false, false, false, false, false] rfl rfl (take_ofW HT_.out HW_.out (by kernel_rfl)) (fun _ _ _ h => h) (Or.inl ⟨by rfl, ?_⟩) hHeld ?_ ?_
      rotate_left
      ·rintro w' ⟨s0, s1, s2⟩
       go_simp
       with_reducible rfl
      rotate_left
      ·simp only [Act.put, setIfInBounds_toArray, set_cons_zero, set_cons_succ, i64_w, i32_w]
       rfl
      refine take_ (i := 8) (N := some 98) (v := ?_) (a' := ?_) #[true, true, false, false, true, true, false, true, true, false, false, false, false] rfl rfl (take_ofW HT_.out HW_.out (by kernel_rfl)) (fun _ _ _ h => h) (Or.inl ⟨by rfl, ?_⟩) hHeld ?_ ?_
      rotate_left
      ·rintro w' ⟨s0, s1, s2⟩
       go_simp
       with_reducible rfl
      rotate_left
      ·simp only [Act.put, setIfInBounds_toArray, set_cons_zero, set_cons_succ, i64_w, i32_w]
       rfl
      refine join_ (σ := Nat) 1 #[true, true, true, true, true, true, true, true, true, true, true, true, false] (fun s_ => [(92, .int .i64 t160), (96, .int .i64 t161), (99, .int .i64 t162), (18, .pointer (some ⟨s_, 0, none⟩)), (93, .int .i64 (wrap64 (1999 + t160))), (100, .agg #[.int .i64 (wrap64 (1999 + t160)), .int .i64 t161, .int .i64 t162])]) (fun s_ w' => (w'.cell? ⟨gb146, 0, none⟩ = some (.int .i64 a2_0) ∧ w'.cell? ⟨gb146, 1, none⟩ = some (.int .i64 a2_1) ∧ w'.cell? ⟨gb146, 2, none⟩ = some (.int .i64 a2_2)) ∧ (w'.heap[gb146]? = some (.cells #[.int .i64 a2_0, .int .i64 a2_1, .int .i64 a2_2] 22 (0, 0))) ∧ (w'.heap[s_]? = some (.cells #[.int .i64 0, .int .i64 0, .int .i64 0] 22 (0, 0))) ∧ (w.heap.size ≤ s_) ∧ (w.heap.size ≤ s_) ∧ (gb146 ≠ s_) ∧ (s_ ≠ gb146) ∧ (Below w.heap.size w w')) ?_ ?_
      rotate_left
      ·intro hCont
       refine two_ (i := 2) (j := 11) (Ni := some 92) (Nj := some 18) #[true, true, true, false, true, true, false, true, true, false, false, false, false] #[true, true, false, false, true, true, false, true, true, false, false, true, false] rfl rfl rfl rfl (two_of HT_.out (by kernel_rfl)) (by decide) (by decide) (fun K hK => ?_) (fun K hK => ?_)
       ·skip
        refine goes_ Tryd.func10 (by kernel_rfl) rfl #[.int .i64 a2_0, .int .i64 102] (by rfl) rfl rfl (by (try simp only [List.map_toArray, List.map_cons, List.map_nil]); first | done | rfl | (simp only [List.length_drop, List.length_take]; rfl)) ?_
        with_reducible refine (wageofficelaw02_pick.calls a2_0 102 t160 _ A30.out).mono ?_
        rintro e w' ⟨rfl, ⟨nd, rfl⟩⟩
        refine ⟨_, rfl, ?_⟩
        refine hK.out _ _ ⟨(blk_cell BK146.out 0).trans rfl, (blk_cell BK146.out 1).trans rfl, (blk_cell BK146.out 2).trans rfl⟩ (fun hHeld => ?_)
        clear hK K
        refine norm_ (a' := ?_) ?_ ?_
        rotate_left
        ·show Act.put _ (some 92) _ = _
         simp only [Act.put, setIfInBounds_toArray, set_cons_zero, set_cons_succ, i64_w, i32_w]
         rfl
        refine pure_ (i := 3) (N := some 93) (v := ?_) (a' := ?_) #[true, true, true, true, true, true, false, true, true, false, false, false, false] rfl rfl (any_of HT_.out (by kernel_rfl)) (fun _ _ _ h => h) (Or.inl ⟨by rfl, ?_⟩) ?_ ?_
        rotate_left
        ·intro w'
         go_simp
         with_reducible rfl
        rotate_left
        ·simp only [Act.put, setIfInBounds_toArray, set_cons_zero, set_cons_succ, i64_w, i32_w]
         rfl
        refine two_ (i := 6) (j := 11) (Ni := some 96) (Nj := some 18) #[true, true, true, true, true, true, true, true, true, false, false, false, false] #[true, true, true, true, true, true, false, true, true, false, false, true, false] rfl rfl rfl rfl (two_of HT_.out (by kernel_rfl)) (by decide) (by decide) (fun K hK => ?_) (fun K hK => ?_)
        ·skip
         refine goes_ Tryd.func10 (by kernel_rfl) rfl #[.int .i64 a2_1, .int .i64 14] (by rfl) rfl rfl (by (try simp only [List.map_toArray, List.map_cons, List.map_nil]); first | done | rfl | (simp only [List.length_drop, List.length_take]; rfl)) ?_
         with_reducible refine (wageofficelaw02_pick.calls a2_1 14 t161 _ A31.out).mono ?_
         rintro e w' ⟨rfl, ⟨nd, rfl⟩⟩
         refine ⟨_, rfl, ?_⟩
         refine hK.out _ _ ⟨(blk_cell BK146.out 0).trans rfl, (blk_cell BK146.out 1).trans rfl, (blk_cell BK146.out 2).trans rfl⟩ (fun hHeld => ?_)
         clear hK K
         refine norm_ (a' := ?_) ?_ ?_
         rotate_left
         ·show Act.put _ (some 96) _ = _
          simp only [Act.put, setIfInBounds_toArray, set_cons_zero, set_cons_succ, i64_w, i32_w]
          rfl
         refine two_ (i := 9) (j := 11) (Ni := some 99) (Nj := some 18) #[true, true, true, true, true, true, true, true, true, true, false, false, false] #[true, true, true, true, true, true, true, true, true, false, false, true, false] rfl rfl rfl rfl (two_of HT_.out (by kernel_rfl)) (by decide) (by decide) (fun K hK => ?_) (fun K hK => ?_)
         ·skip
          refine goes_ Tryd.func10 (by kernel_rfl) rfl #[.int .i64 a2_2, .int .i64 33] (by rfl) rfl rfl (by (try simp only [List.map_toArray, List.map_cons, List.map_nil]); first | done | rfl | (simp only [List.length_drop, List.length_take]; rfl)) ?_
          with_reducible refine (wageofficelaw02_pick.calls a2_2 33 t162 _ A32.out).mono ?_
          rintro e w' ⟨rfl, ⟨nd, rfl⟩⟩
          refine ⟨_, rfl, ?_⟩
          refine hK.out _ _ ⟨(blk_cell BK146.out 0).trans rfl, (blk_cell BK146.out 1).trans rfl, (blk_cell BK146.out 2).trans rfl⟩ (fun hHeld => ?_)
          clear hK K
          refine norm_ (a' := ?_) ?_ ?_
          rotate_left
          ·show Act.put _ (some 99) _ = _
           simp only [Act.put, setIfInBounds_toArray, set_cons_zero, set_cons_succ, i64_w, i32_w]
           rfl
          refine pure_ (i := 10) (N := some 100) (v := ?_) (a' := ?_) #[true, true, true, true, true, true, true, true, true, true, true, false, false] rfl rfl (any_of HT_.out (by kernel_rfl)) (fun _ _ _ h => h) (Or.inl ⟨by rfl, ?_⟩) ?_ ?_
          rotate_left
          ·intro w'
           go_simp
           with_reducible rfl
          rotate_left
          ·simp only [Act.put, setIfInBounds_toArray, set_cons_zero, set_cons_succ, i64_w, i32_w]
           rfl
          refine one_ (i := 11) (N := some 18) #[true, true, true, true, true, true, true, true, true, true, true, true, false] rfl rfl (one_of HT_.out (by kernel_rfl)) (by decide) (fun K hK => ?_)
          refine box_step ?hg (N := 18) ?hd (cs := #[.int .i64 0, .int .i64 0, .int .i64 0]) (t := 22) ?hr ?_; (case hd => rfl); (case hg => rfl); (case hr => first | (go_simp; done) | (go_simp; rfl))
          intro gb163 hg w62 hbox hb
          have n0_ := Aside0.mk (blk_below (g := gb146) (o := .cells #[.int .i64 a2_0, .int .i64 a2_1, .int .i64 a2_2] 22 (0, 0)) (by (with_reducible repeat (first | refine blk_drewN ?_ _ | refine blk_drew ?_ | refine blk_alloc ?_ _)); exact BK146.out) hb)
          have n1_ := Aside0.mk (below_step (by repeat (first | (with_reducible first | exact HB.out | apply below_alloc | apply pw_below_drewN | apply below_drew1 | refine below_set ?_ GE146.out) | exact HB.out)) hb)
          have n2_ := Aside0.mk (hbox)
          have n3_ := Aside0.mk ((by rw [hg]; exact (below_size (by repeat (first | (with_reducible first | exact HB.out | apply below_alloc | apply pw_below_drewN | apply below_drew1 | refine below_set ?_ GE146.out) | exact HB.out))) : w.heap.size ≤ gb163))
          have n4_ := Aside0.mk ((by rw [hg]; exact (below_size (by repeat (first | (with_reducible first | exact HB.out | apply below_alloc | apply pw_below_drewN | apply below_drew1 | refine below_set ?_ GE146.out) | exact HB.out))) : w.heap.size ≤ gb163))
          have n5_ := Aside0.mk ((by rw [hg]; exact Nat.ne_of_lt (blk_lt (g := gb146) (o := .cells #[.int .i64 a2_0, .int .i64 a2_1, .int .i64 a2_2] 22 (0, 0)) (by (with_reducible repeat (first | refine blk_drewN ?_ _ | refine blk_drew ?_ | refine blk_alloc ?_ _)); exact BK146.out)) : gb146 ≠ gb163))
          have n6_ := Aside0.mk ((by rw [hg]; exact Nat.ne_of_gt (blk_lt (g := gb146) (o := .cells #[.int .i64 a2_0, .int .i64 a2_1, .int .i64 a2_2] 22 (0, 0)) (by (with_reducible repeat (first | refine blk_drewN ?_ _ | refine blk_drew ?_ | refine blk_alloc ?_ _)); exact BK146.out)) : gb163 ≠ gb146))
          clear BK146
          clear HB
          have BK146 := n0_
          have HB := n1_
          have BK163 := n2_
          have GW163 := n3_
          have GE163 := n4_
          have NB146_163 := n5_
          have NB163_146 := n6_
          clear n0_ n1_ n2_ n3_ n4_ n5_ n6_
          clear hb hbox hg
          refine hK.out _ _ ⟨(blk_cell BK146.out 0).trans rfl, (blk_cell BK146.out 1).trans rfl, (blk_cell BK146.out 2).trans rfl⟩ (fun hHeld => ?_)
          clear hK K
          refine norm_ (a' := ?_) ?_ ?_
          rotate_left
          ·show Act.put _ (some 18) _ = _
           simp only [Act.put, setIfInBounds_toArray, set_cons_zero, set_cons_succ, i64_w, i32_w]
           rfl
          exact norm_ (by simp only [putAll, Act.put, setIfInBounds_toArray, set_cons_zero, set_cons_succ]) (hCont (gb163) _ ⟨hHeld, (by (with_reducible repeat (first | refine blk_drewN ?_ _ | refine blk_drew ?_ | refine blk_alloc ?_ _)); exact BK146.out), (by (with_reducible repeat (first | refine blk_drewN ?_ _ | refine blk_drew ?_ | refine blk_alloc ?_ _)); exact BK163.out), GW163.out, GE163.out, NB146_163.out, NB163_146.out, (by repeat (first | (with_reducible first | exact HB.out | apply below_alloc | apply pw_below_drewN | apply below_drew1 | refine below_set ?_ GE146.out | refine below_set ?_ GE163.out) | exact HB.out))⟩)
         ·skip
          refine box_step ?hg (N := 18) ?hd (cs := #[.int .i64 0, .int .i64 0, .int .i64 0]) (t := 22) ?hr ?_; (case hd => rfl); (case hg => rfl); (case hr => first | (go_simp; done) | (go_simp; rfl))
          intro gb163 hg w62 hbox hb
          have n0_ := Aside0.mk (blk_below (g := gb146) (o := .cells #[.int .i64 a2_0, .int .i64 a2_1, .int .i64 a2_2] 22 (0, 0)) (by (with_reducible repeat (first | refine blk_drewN ?_ _ | refine blk_drew ?_ | refine blk_alloc ?_ _)); exact BK146.out) hb)
          have n1_ := Aside0.mk (below_step (by repeat (first | (with_reducible first | exact HB.out | apply below_alloc | apply pw_below_drewN | apply below_drew1 | refine below_set ?_ GE146.out) | exact HB.out)) hb)
          have n2_ := Aside0.mk (hbox)
          have n3_ := Aside0.mk ((by rw [hg]; exact (below_size (by repeat (first | (with_reducible first | exact HB.out | apply below_alloc | apply pw_below_drewN | apply below_drew1 | refine below_set ?_ GE146.out) | exact HB.out))) : w.heap.size ≤ gb163))
          have n4_ := Aside0.mk ((by rw [hg]; exact (below_size (by repeat (first | (with_reducible first | exact HB.out | apply below_alloc | apply pw_below_drewN | apply below_drew1 | refine below_set ?_ GE146.out) | exact HB.out))) : w.heap.size ≤ gb163))
          have n5_ := Aside0.mk ((by rw [hg]; exact Nat.ne_of_lt (blk_lt (g := gb146) (o := .cells #[.int .i64 a2_0, .int .i64 a2_1, .int .i64 a2_2] 22 (0, 0)) (by (with_reducible repeat (first | refine blk_drewN ?_ _ | refine blk_drew ?_ | refine blk_alloc ?_ _)); exact BK146.out)) : gb146 ≠ gb163))
          have n6_ := Aside0.mk ((by rw [hg]; exact Nat.ne_of_gt (blk_lt (g := gb146) (o := .cells #[.int .i64 a2_0, .int .i64 a2_1, .int .i64 a2_2] 22 (0, 0)) (by (with_reducible repeat (first | refine blk_drewN ?_ _ | refine blk_drew ?_ | refine blk_alloc ?_ _)); exact BK146.out)) : gb163 ≠ gb146))
          clear BK146
          clear HB
          have BK146 := n0_
          have HB := n1_
          have BK163 := n2_
          have GW163 := n3_
          have GE163 := n4_
          have NB146_163 := n5_
          have NB163_146 := n6_
          clear n0_ n1_ n2_ n3_ n4_ n5_ n6_
          clear hb hbox hg
          refine hK.out _ _ ⟨(blk_cell BK146.out 0).trans rfl, (blk_cell BK146.out 1).trans rfl, (blk_cell BK146.out 2).trans rfl⟩ (fun hHeld => ?_)
          clear hK K
          refine norm_ (a' := ?_) ?_ ?_
          rotate_left
          ·show Act.put _ (some 18) _ = _
           simp only [Act.put, setIfInBounds_toArray, set_cons_zero, set_cons_succ, i64_w, i32_w]
           rfl
          refine one_ (i := 9) (N := some 99) #[true, true, true, true, true, true, true, true, true, true, false, true, false] rfl rfl (one_of HT_.out (by kernel_rfl)) (by decide) (fun K hK => ?_)
          refine goes_ Tryd.func10 (by kernel_rfl) rfl #[.int .i64 a2_2, .int .i64 33] (by rfl) rfl rfl (by (try simp only [List.map_toArray, List.map_cons, List.map_nil]); first | done | rfl | (simp only [List.length_drop, List.length_take]; rfl)) ?_
          with_reducible refine (wageofficelaw02_pick.calls a2_2 33 t162 _ A32.out).mono ?_
          rintro e w' ⟨rfl, ⟨nd, rfl⟩⟩
          refine ⟨_, rfl, ?_⟩
          refine hK.out _ _ ⟨(blk_cell BK146.out 0).trans rfl, (blk_cell BK146.out 1).trans rfl, (blk_cell BK146.out 2).trans rfl⟩ (fun hHeld => ?_)
          clear hK K
          refine norm_ (a' := ?_) ?_ ?_
          rotate_left
          ·show Act.put _ (some 99) _ = _
           simp only [Act.put, setIfInBounds_toArray, set_cons_zero, set_cons_succ, i64_w, i32_w]
           rfl
          refine pure_ (i := 10) (N := some 100) (v := ?_) (a' := ?_) #[true, true, true, true, true, true, true, true, true, true, true, true, false] rfl rfl (any_of HT_.out (by kernel_rfl)) (fun _ _ _ h => h) (Or.inl ⟨by rfl, ?_⟩) ?_ ?_
          rotate_left
          ·intro w'
           go_simp
           with_reducible rfl
          rotate_left
          ·simp only [Act.put, setIfInBounds_toArray, set_cons_zero, set_cons_succ, i64_w, i32_w]
           rfl
          exact norm_ (by simp only [putAll, Act.put, setIfInBounds_toArray, set_cons_zero, set_cons_succ]) (hCont (gb163) _ ⟨hHeld, (by (with_reducible repeat (first | refine blk_drewN ?_ _ | refine blk_drew ?_ | refine blk_alloc ?_ _)); exact BK146.out), (by (with_reducible repeat (first | refine blk_drewN ?_ _ | refine blk_drew ?_ | refine blk_alloc ?_ _)); exact BK163.out), GW163.out, GE163.out, NB146_163.out, NB163_146.out, (by repeat (first | (with_reducible first | exact HB.out | apply below_alloc | apply pw_below_drewN | apply below_drew1 | refine below_set ?_ GE146.out | refine below_set ?_ GE163.out) | exact HB.out))⟩)
        ·skip
         refine box_step ?hg (N := 18) ?hd (cs := #[.int .i64 0, .int .i64 0, .int .i64 0]) (t := 22) ?hr ?_; (case hd => rfl); (case hg => rfl); (case hr => first | (go_simp; done) | (go_simp; rfl))
         intro gb163 hg w62 hbox hb
         have n0_ := Aside0.mk (blk_below (g := gb146) (o := .cells #[.int .i64 a2_0, .int .i64 a2_1, .int .i64 a2_2] 22 (0, 0)) (by (with_reducible repeat (first | refine blk_drewN ?_ _ | refine blk_drew ?_ | refine blk_alloc ?_ _)); exact BK146.out) hb)
         have n1_ := Aside0.mk (below_step (by repeat (first | (with_reducible first | exact HB.out | apply below_alloc | apply pw_below_drewN | apply below_drew1 | refine below_set ?_ GE146.out) | exact HB.out)) hb)
         have n2_ := Aside0.mk (hbox)
         have n3_ := Aside0.mk ((by rw [hg]; exact (below_size (by repeat (first | (with_reducible first | exact HB.out | apply below_alloc | apply pw_below_drewN | apply below_drew1 | refine below_set ?_ GE146.out) | exact HB.out))) : w.heap.size ≤ gb163))
         have n4_ := Aside0.mk ((by rw [hg]; exact (below_size (by repeat (first | (with_reducible first | exact HB.out | apply below_alloc | apply pw_below_drewN | apply below_drew1 | refine below_set ?_ GE146.out) | exact HB.out))) : w.heap.size ≤ gb163))
         have n5_ := Aside0.mk ((by rw [hg]; exact Nat.ne_of_lt (blk_lt (g := gb146) (o := .cells #[.int .i64 a2_0, .int .i64 a2_1, .int .i64 a2_2] 22 (0, 0)) (by (with_reducible repeat (first | refine blk_drewN ?_ _ | refine blk_drew ?_ | refine blk_alloc ?_ _)); exact BK146.out)) : gb146 ≠ gb163))
         have n6_ := Aside0.mk ((by rw [hg]; exact Nat.ne_of_gt (blk_lt (g := gb146) (o := .cells #[.int .i64 a2_0, .int .i64 a2_1, .int .i64 a2_2] 22 (0, 0)) (by (with_reducible repeat (first | refine blk_drewN ?_ _ | refine blk_drew ?_ | refine blk_alloc ?_ _)); exact BK146.out)) : gb163 ≠ gb146))
         clear BK146
         clear HB
         have BK146 := n0_
         have HB := n1_
         have BK163 := n2_
         have GW163 := n3_
         have GE163 := n4_
         have NB146_163 := n5_
         have NB163_146 := n6_
         clear n0_ n1_ n2_ n3_ n4_ n5_ n6_
         clear hb hbox hg
         refine hK.out _ _ ⟨(blk_cell BK146.out 0).trans rfl, (blk_cell BK146.out 1).trans rfl, (blk_cell BK146.out 2).trans rfl⟩ (fun hHeld => ?_)
         clear hK K
         refine norm_ (a' := ?_) ?_ ?_
         rotate_left
         ·show Act.put _ (some 18) _ = _
          simp only [Act.put, setIfInBounds_toArray, set_cons_zero, set_cons_succ, i64_w, i32_w]
          rfl
         refine one_ (i := 6) (N := some 96) #[true, true, true, true, true, true, true, true, true, false, false, true, false] rfl rfl (one_of HT_.out (by kernel_rfl)) (by decide) (fun K hK => ?_)
         refine goes_ Tryd.func10 (by kernel_rfl) rfl #[.int .i64 a2_1, .int .i64 14] (by rfl) rfl rfl (by (try simp only [List.map_toArray, List.map_cons, List.map_nil]); first | done | rfl | (simp only [List.length_drop, List.length_take]; rfl)) ?_
         with_reducible refine (wageofficelaw02_pick.calls a2_1 14 t161 _ A31.out).mono ?_
         rintro e w' ⟨rfl, ⟨nd, rfl⟩⟩
         refine ⟨_, rfl, ?_⟩
         refine hK.out _ _ ⟨(blk_cell BK146.out 0).trans rfl, (blk_cell BK146.out 1).trans rfl, (blk_cell BK146.out 2).trans rfl⟩ (fun hHeld => ?_)
         clear hK K
         refine norm_ (a' := ?_) ?_ ?_
         rotate_left
         ·show Act.put _ (some 96) _ = _
          simp only [Act.put, setIfInBounds_toArray, set_cons_zero, set_cons_succ, i64_w, i32_w]
          rfl
         refine one_ (i := 9) (N := some 99) #[true, true, true, true, true, true, true, true, true, true, false, true, false] rfl rfl (one_of HT_.out (by kernel_rfl)) (by decide) (fun K hK => ?_)
         refine goes_ Tryd.func10 (by kernel_rfl) rfl #[.int .i64 a2_2, .int .i64 33] (by rfl) rfl rfl (by (try simp only [List.map_toArray, List.map_cons, List.map_nil]); first | done | rfl | (simp only [List.length_drop, List.length_take]; rfl)) ?_
         with_reducible refine (wageofficelaw02_pick.calls a2_2 33 t162 _ A32.out).mono ?_
         rintro e w' ⟨rfl, ⟨nd, rfl⟩⟩
         refine ⟨_, rfl, ?_⟩
         refine hK.out _ _ ⟨(blk_cell BK146.out 0).trans rfl, (blk_cell BK146.out 1).trans rfl, (blk_cell BK146.out 2).trans rfl⟩ (fun hHeld => ?_)
         clear hK K
         refine norm_ (a' := ?_) ?_ ?_
         rotate_left
         ·show Act.put _ (some 99) _ = _
          simp only [Act.put, setIfInBounds_toArray, set_cons_zero, set_cons_succ, i64_w, i32_w]
          rfl
         refine pure_ (i := 10) (N := some 100) (v := ?_) (a' := ?_) #[true, true, true, true, true, true, true, true, true, true, true, true, false] rfl rfl (any_of HT_.out (by kernel_rfl)) (fun _ _ _ h => h) (Or.inl ⟨by rfl, ?_⟩) ?_ ?_
         rotate_left
         ·intro w'
          go_simp
          with_reducible rfl
         rotate_left
         ·simp only [Act.put, setIfInBounds_toArray, set_cons_zero, set_cons_succ, i64_w, i32_w]
          rfl
         exact norm_ (by simp only [putAll, Act.put, setIfInBounds_toArray, set_cons_zero, set_cons_succ]) (hCont (gb163) _ ⟨hHeld, (by (with_reducible repeat (first | refine blk_drewN ?_ _ | refine blk_drew ?_ | refine blk_alloc ?_ _)); exact BK146.out), (by (with_reducible repeat (first | refine blk_drewN ?_ _ | refine blk_drew ?_ | refine blk_alloc ?_ _)); exact BK163.out), GW163.out, GE163.out, NB146_163.out, NB163_146.out, (by repeat (first | (with_reducible first | exact HB.out | apply below_alloc | apply pw_below_drewN | apply below_drew1 | refine below_set ?_ GE146.out | refine below_set ?_ GE163.out) | exact HB.out))⟩)
       ·skip
        refine box_step ?hg (N := 18) ?hd (cs := #[.int .i64 0, .int .i64 0, .int .i64 0]) (t := 22) ?hr ?_; (case hd => rfl); (case hg => rfl); (case hr => first | (go_simp; done) | (go_simp; rfl))
        intro gb163 hg w62 hbox hb
        have n0_ := Aside0.mk (blk_below (g := gb146) (o := .cells #[.int .i64 a2_0, .int .i64 a2_1, .int .i64 a2_2] 22 (0, 0)) (by (with_reducible repeat (first | refine blk_drewN ?_ _ | refine blk_drew ?_ | refine blk_alloc ?_ _)); exact BK146.out) hb)
        have n1_ := Aside0.mk (below_step (by repeat (first | (with_reducible first | exact HB.out | apply below_alloc | apply pw_below_drewN | apply below_drew1 | refine below_set ?_ GE146.out) | exact HB.out)) hb)
        have n2_ := Aside0.mk (hbox)
        have n3_ := Aside0.mk ((by rw [hg]; exact (below_size (by repeat (first | (with_reducible first | exact HB.out | apply below_alloc | apply pw_below_drewN | apply below_drew1 | refine below_set ?_ GE146.out) | exact HB.out))) : w.heap.size ≤ gb163))
        have n4_ := Aside0.mk ((by rw [hg]; exact (below_size (by repeat (first | (with_reducible first | exact HB.out | apply below_alloc | apply pw_below_drewN | apply below_drew1 | refine below_set ?_ GE146.out) | exact HB.out))) : w.heap.size ≤ gb163))
        have n5_ := Aside0.mk ((by rw [hg]; exact Nat.ne_of_lt (blk_lt (g := gb146) (o := .cells #[.int .i64 a2_0, .int .i64 a2_1, .int .i64 a2_2] 22 (0, 0)) (by (with_reducible repeat (first | refine blk_drewN ?_ _ | refine blk_drew ?_ | refine blk_alloc ?_ _)); exact BK146.out)) : gb146 ≠ gb163))
        have n6_ := Aside0.mk ((by rw [hg]; exact Nat.ne_of_gt (blk_lt (g := gb146) (o := .cells #[.int .i64 a2_0, .int .i64 a2_1, .int .i64 a2_2] 22 (0, 0)) (by (with_reducible repeat (first | refine blk_drewN ?_ _ | refine blk_drew ?_ | refine blk_alloc ?_ _)); exact BK146.out)) : gb163 ≠ gb146))
        clear BK146
        clear HB
        have BK146 := n0_
        have HB := n1_
        have BK163 := n2_
        have GW163 := n3_
        have GE163 := n4_
        have NB146_163 := n5_
        have NB163_146 := n6_
        clear n0_ n1_ n2_ n3_ n4_ n5_ n6_
        clear hb hbox hg
        refine hK.out _ _ ⟨(blk_cell BK146.out 0).trans rfl, (blk_cell BK146.out 1).trans rfl, (blk_cell BK146.out 2).trans rfl⟩ (fun hHeld => ?_)
        clear hK K
        refine norm_ (a' := ?_) ?_ ?_
        rotate_left
        ·show Act.put _ (some 18) _ = _
         simp only [Act.put, setIfInBounds_toArray, set_cons_zero, set_cons_succ, i64_w, i32_w]
         rfl
        refine one_ (i := 2) (N := some 92) #[true, true, true, false, true, true, false, true, true, false, false, true, false] rfl rfl (one_of HT_.out (by kernel_rfl)) (by decide) (fun K hK => ?_)
        refine goes_ Tryd.func10 (by kernel_rfl) rfl #[.int .i64 a2_0, .int .i64 102] (by rfl) rfl rfl (by (try simp only [List.map_toArray, List.map_cons, List.map_nil]); first | done | rfl | (simp only [List.length_drop, List.length_take]; rfl)) ?_
        with_reducible refine (wageofficelaw02_pick.calls a2_0 102 t160 _ A30.out).mono ?_
        rintro e w' ⟨rfl, ⟨nd, rfl⟩⟩
        refine ⟨_, rfl, ?_⟩
        refine hK.out _ _ ⟨(blk_cell BK146.out 0).trans rfl, (blk_cell BK146.out 1).trans rfl, (blk_cell BK146.out 2).trans rfl⟩ (fun hHeld => ?_)
        clear hK K
        refine norm_ (a' := ?_) ?_ ?_
        rotate_left
        ·show Act.put _ (some 92) _ = _
         simp only [Act.put, setIfInBounds_toArray, set_cons_zero, set_cons_succ, i64_w, i32_w]
         rfl
        refine pure_ (i := 3) (N := some 93) (v := ?_) (a' := ?_) #[true, true, true, true, true, true, false, true, true, false, false, true, false] rfl rfl (any_of HT_.out (by kernel_rfl)) (fun _ _ _ h => h) (Or.inl ⟨by rfl, ?_⟩) ?_ ?_
        rotate_left
        ·intro w'
         go_simp
         with_reducible rfl
        rotate_left
        ·simp only [Act.put, setIfInBounds_toArray, set_cons_zero, set_cons_succ, i64_w, i32_w]
         rfl
        refine one_ (i := 6) (N := some 96) #[true, true, true, true, true, true, true, true, true, false, false, true, false] rfl rfl (one_of HT_.out (by kernel_rfl)) (by decide) (fun K hK => ?_)
        refine goes_ Tryd.func10 (by kernel_rfl) rfl #[.int .i64 a2_1, .int .i64 14] (by rfl) rfl rfl (by (try simp only [List.map_toArray, List.map_cons, List.map_nil]); first | done | rfl | (simp only [List.length_drop, List.length_take]; rfl)) ?_
        with_reducible refine (wageofficelaw02_pick.calls a2_1 14 t161 _ A31.out).mono ?_
        rintro e w' ⟨rfl, ⟨nd, rfl⟩⟩
        refine ⟨_, rfl, ?_⟩
        refine hK.out _ _ ⟨(blk_cell BK146.out 0).trans rfl, (blk_cell BK146.out 1).trans rfl, (blk_cell BK146.out 2).trans rfl⟩ (fun hHeld => ?_)
        clear hK K
        refine norm_ (a' := ?_) ?_ ?_
        rotate_left
        ·show Act.put _ (some 96) _ = _
         simp only [Act.put, setIfInBounds_toArray, set_cons_zero, set_cons_succ, i64_w, i32_w]
         rfl
        refine one_ (i := 9) (N := some 99) #[true, true, true, true, true, true, true, true, true, true, false, true, false] rfl rfl (one_of HT_.out (by kernel_rfl)) (by decide) (fun K hK => ?_)
        refine goes_ Tryd.func10 (by kernel_rfl) rfl #[.int .i64 a2_2, .int .i64 33] (by rfl) rfl rfl (by (try simp only [List.map_toArray, List.map_cons, List.map_nil]); first | done | rfl | (simp only [List.length_drop, List.length_take]; rfl)) ?_
        with_reducible refine (wageofficelaw02_pick.calls a2_2 33 t162 _ A32.out).mono ?_
        rintro e w' ⟨rfl, ⟨nd, rfl⟩⟩
        refine ⟨_, rfl, ?_⟩
        refine hK.out _ _ ⟨(blk_cell BK146.out 0).trans rfl, (blk_cell BK146.out 1).trans rfl, (blk_cell BK146.out 2).trans rfl⟩ (fun hHeld => ?_)
        clear hK K
        refine norm_ (a' := ?_) ?_ ?_
        rotate_left
        ·show Act.put _ (some 99) _ = _
         simp only [Act.put, setIfInBounds_toArray, set_cons_zero, set_cons_succ, i64_w, i32_w]
         rfl
        refine pure_ (i := 10) (N := some 100) (v := ?_) (a' := ?_) #[true, true, true, true, true, true, true, true, true, true, true, true, false] rfl rfl (any_of HT_.out (by kernel_rfl)) (fun _ _ _ h => h) (Or.inl ⟨by rfl, ?_⟩) ?_ ?_
        rotate_left
        ·intro w'
         go_simp
         with_reducible rfl
        rotate_left
        ·simp only [Act.put, setIfInBounds_toArray, set_cons_zero, set_cons_succ, i64_w, i32_w]
         rfl
        exact norm_ (by simp only [putAll, Act.put, setIfInBounds_toArray, set_cons_zero, set_cons_succ]) (hCont (gb163) _ ⟨hHeld, (by (with_reducible repeat (first | refine blk_drewN ?_ _ | refine blk_drew ?_ | refine blk_alloc ?_ _)); exact BK146.out), (by (with_reducible repeat (first | refine blk_drewN ?_ _ | refine blk_drew ?_ | refine blk_alloc ?_ _)); exact BK163.out), GW163.out, GE163.out, NB146_163.out, NB163_146.out, (by repeat (first | (with_reducible first | exact HB.out | apply below_alloc | apply pw_below_drewN | apply below_drew1 | refine below_set ?_ GE146.out | refine below_set ?_ GE163.out) | exact HB.out))⟩)
      rintro gb163 w63 ⟨hS_, h0_, h1_, h2_, h3_, h4_, h5_, h6_⟩
      have n0_ : Aside0 (w63.heap[gb146]? = some (.cells #[.int .i64 a2_0, .int .i64 a2_1, .int .i64 a2_2] 22 (0, 0))) := ⟨h0_⟩
      have n1_ : Aside0 (w63.heap[gb163]? = some (.cells #[.int .i64 0, .int .i64 0, .int .i64 0] 22 (0, 0))) := ⟨h1_⟩
      have n2_ : Aside0 (w.heap.size ≤ gb163) := ⟨h2_⟩
      have n3_ : Aside0 (w.heap.size ≤ gb163) := ⟨h3_⟩
      have n4_ : Aside0 (gb146 ≠ gb163) := ⟨h4_⟩
      have n5_ : Aside0 (gb163 ≠ gb146) := ⟨h5_⟩
      have n6_ : Aside0 (Below w.heap.size w w63) := ⟨h6_⟩
      clear BK146
      clear HB
      clear h0_ h1_ h2_ h3_ h4_ h5_ h6_
      have BK146 := n0_
      have BK163 := n1_
      have GW163 := n2_
      have GE163 := n3_
      have NB146_163 := n4_
      have NB163_146 := n5_
      have HB := n6_
      clear n0_ n1_ n2_ n3_ n4_ n5_ n6_
      have hHeld : w63.cell? ⟨gb146, 0, none⟩ = some (.int .i64 a2_0) ∧ w63.cell? ⟨gb146, 1, none⟩ = some (.int .i64 a2_1) ∧ w63.cell? ⟨gb146, 2, none⟩ = some (.int .i64 a2_2) := hS_
      refine norm_ (a' := ?_) ?_ ?_
      rotate_left
      ·simp only [putAll, Act.put, setIfInBounds_toArray, set_cons_zero, set_cons_succ]
       rfl
      refine one_ (i := 12) (N := none) #[true, true, true, true, true, true, true, true, true, true, true, true, true] rfl rfl (one_of HT_.out (by kernel_rfl)) (by decide) (fun K hK => ?_)
      have hs64 : w63.cell? ⟨gb163, 0, none⟩ = some (.int .i64 0) := (blk_cell BK163.out 0).trans rfl
      have hfs64 := blk_frozen BK163.out 0
      have hns64_0 := NB146_163.out
      have hms64_0 := NB163_146.out
      have hs65 : w63.cell? ⟨gb163, 1, none⟩ = some (.int .i64 0) := (blk_cell BK163.out 1).trans rfl
      have hfs65 := blk_frozen BK163.out 1
      have hns65_0 := NB146_163.out
      have hms65_0 := NB163_146.out
      have hs66 : w63.cell? ⟨gb163, 2, none⟩ = some (.int .i64 0) := (blk_cell BK163.out 2).trans rfl
      have hfs66 := blk_frozen BK163.out 2
      have hns66_0 := NB146_163.out
      have hms66_0 := NB163_146.out
      refine skip_ (w1 := ?_) (by rfl) rfl ?_ ?_
      rotate_left
      ·go_simp
       rfl
      refine hK.out _ _ ⟨((cell_far (p := ⟨gb163, _, none⟩) NB146_163.out _).trans (((cell_far (p := ⟨gb163, _, none⟩) NB146_163.out _).trans (((cell_far (p := ⟨gb163, _, none⟩) NB146_163.out _).trans (hHeld.1)))))), ((cell_far (p := ⟨gb163, _, none⟩) NB146_163.out _).trans (((cell_far (p := ⟨gb163, _, none⟩) NB146_163.out _).trans (((cell_far (p := ⟨gb163, _, none⟩) NB146_163.out _).trans (hHeld.2.1)))))), ((cell_far (p := ⟨gb163, _, none⟩) NB146_163.out _).trans (((cell_far (p := ⟨gb163, _, none⟩) NB146_163.out _).trans (((cell_far (p := ⟨gb163, _, none⟩) NB146_163.out _).trans (hHeld.2.2))))))⟩ (fun hHeld => ?_)
      clear hK K
      refine done_ (done_of HT_.out (by kernel_rfl)) ?_
      have hnb67 := NB163_146.out
      have hnc67 := NB146_163.out
      have hcz68_0 : w63.cell? ⟨gb163, 0, none⟩ = some (.int .i64 0) := (blk_cell BK163.out 0).trans rfl
      have hcz68_1 : w63.cell? ⟨gb163, 1, none⟩ = some (.int .i64 0) := (blk_cell BK163.out 1).trans rfl
      have hcz68_2 : w63.cell? ⟨gb163, 2, none⟩ = some (.int .i64 0) := (blk_cell BK163.out 2).trans rfl
      have hfz68_0 := blk_frozen BK163.out 0
      have hfz68_1 := blk_frozen BK163.out 1
      have hfz68_2 := blk_frozen BK163.out 2
      try go_wp2_with (first | ((with_reducible refine gate_callee (f := 25) rfl ?_); refine goesL_ (some 108) rfl rfl Tryd.func25 (by kernel_rfl) rfl #[.int .i64 (wrap64 (1999 + t160)), .int .i64 t161, .int .i64 t162] rfl (by (try simp only [List.map_toArray, List.map_cons, List.map_nil]); first | done | rfl | (simp only [List.length_drop, List.length_take]; rfl)) ?_; (with_reducible refine (calendar_Day.calls (wrap64 (1999 + t160)) t161 t162 t164 t165 _ A33.out (TabBefore.below hTBefore.out (by repeat (first | exact HB.out | apply below_alloc | apply pw_below_drewN | apply below_drew1 | refine below_set ?_ GE146.out | refine below_set ?_ GE163.out)))).mono ?_); rintro e w69 ⟨rfl, hb⟩; refine ⟨_, rfl, ?_⟩; have n0_ := Aside0.mk (blk_below (g := gb146) (o := .cells #[.int .i64 a2_0, .int .i64 a2_1, .int .i64 a2_2] 22 (0, 0)) (by (with_reducible repeat (first | refine blk_drewN ?_ _ | refine blk_drew ?_ | refine blk_alloc ?_ _)); refine blk_far ?_ NB146_163.out _; (with_reducible repeat (first | refine blk_drewN ?_ _ | refine blk_drew ?_ | refine blk_alloc ?_ _)); refine blk_far ?_ NB146_163.out _; (with_reducible repeat (first | refine blk_drewN ?_ _ | refine blk_drew ?_ | refine blk_alloc ?_ _)); refine blk_far ?_ NB146_163.out _; (with_reducible repeat (first | refine blk_drewN ?_ _ | refine blk_drew ?_ | refine blk_alloc ?_ _)); exact BK146.out) hb); have n1_ := Aside0.mk (blk_below (g := gb163) (o := .cells #[.int .i64 (wrap64 (1999 + t160)), .int .i64 t161, .int .i64 t162] 22 (0, 0)) (by (with_reducible repeat (first | refine blk_drewN ?_ _ | refine blk_drew ?_ | refine blk_alloc ?_ _)); refine blk_put (cs := #[.int .i64 (wrap64 (1999 + t160)), .int .i64 t161, .int .i64 0]) ?_ 2 _ rfl; (with_reducible repeat (first | refine blk_drewN ?_ _ | refine blk_drew ?_ | refine blk_alloc ?_ _)); refine blk_put (cs := #[.int .i64 (wrap64 (1999 + t160)), .int .i64 0, .int .i64 0]) ?_ 1 _ rfl; (with_reducible repeat (first | refine blk_drewN ?_ _ | refine blk_drew ?_ | refine blk_alloc ?_ _)); refine blk_put (cs := #[.int .i64 0, .int .i64 0, .int .i64 0]) ?_ 0 _ rfl; (with_reducible repeat (first | refine blk_drewN ?_ _ | refine blk_drew ?_ | refine blk_alloc ?_ _)); exact BK163.out) hb); have n2_ := Aside0.mk (below_step (by repeat (first | (with_reducible first | exact HB.out | apply below_alloc | apply pw_below_drewN | apply below_drew1 | refine below_set ?_ GE146.out | refine below_set ?_ GE163.out) | exact HB.out)) hb); clear BK146; clear BK163; clear HB; have BK146 := n0_; have BK163 := n1_; have HB := n2_; clear n0_ n1_ n2_; (try clear hb); (try clear hb2); (try clear hk); (try clear hi)) | ((with_reducible refine gate_callee (f := 11) rfl ?_); refine goesL_ (some 124) rfl rfl Tryd.func11 (by kernel_rfl) rfl #[.int .i64 t164] rfl (by (try simp only [List.map_toArray, List.map_cons, List.map_nil]); first | done | rfl | (simp only [List.length_drop, List.length_take]; rfl)) ?_; (with_reducible refine (calendar_Date.calls t164 t166 t167 t168 _ A35.out (TabBefore.below hTBefore.out (by repeat (first | exact HB.out | apply below_alloc | apply pw_below_drewN | apply below_drew1 | refine below_set ?_ GE146.out | refine below_set ?_ GE163.out)))).mono ?_); rintro e w70 ⟨rfl, hb⟩; refine ⟨_, rfl, ?_⟩; have n0_ := Aside0.mk (blk_below (g := gb146) (o := .cells #[.int .i64 a2_0, .int .i64 a2_1, .int .i64 a2_2] 22 (0, 0)) (by (with_reducible repeat (first | refine blk_drewN ?_ _ | refine blk_drew ?_ | refine blk_alloc ?_ _)); exact BK146.out) hb); have n1_ := Aside0.mk (blk_below (g := gb163) (o := .cells #[.int .i64 (wrap64 (1999 + t160)), .int .i64 t161, .int .i64 t162] 22 (0, 0)) (by (with_reducible repeat (first | refine blk_drewN ?_ _ | refine blk_drew ?_ | refine blk_alloc ?_ _)); exact BK163.out) hb); have n2_ := Aside0.mk (below_step (by repeat (first | (with_reducible first | exact HB.out | apply below_alloc | apply pw_below_drewN | apply below_drew1 | refine below_set ?_ GE146.out | refine below_set ?_ GE163.out) | exact HB.out)) hb); clear BK146; clear BK163; clear HB; have BK146 := n0_; have BK163 := n1_; have HB := n2_; clear n0_ n1_ n2_; (try clear hb); (try clear hb2); (try clear hk); (try clear hi); have hcz71_0 : w70.cell? ⟨gb163, 0, none⟩ = some (.int .i64 (wrap64 (1999 + t160))) := (blk_cell BK163.out 0).trans rfl; have hcz71_1 : w70.cell? ⟨gb163, 1, none⟩ = some (.int .i64 t161) := (blk_cell BK163.out 1).trans rfl; have hcz71_2 : w70.cell? ⟨gb163, 2, none⟩ = some (.int .i64 t162) := (blk_cell BK163.out 2).trans rfl; have hfz71_0 := blk_frozen BK163.out 0; have hfz71_1 := blk_frozen BK163.out 1; have hfz71_2 := blk_frozen BK163.out 2))
      go_ret
      exact ⟨by first | rfl | (simp [errW_none, errW_some] <;> rfl) | (simp [*, errW_none, errW_some] <;> rfl), by repeat (first | (with_reducible first | exact HB.out | apply below_alloc | apply pw_below_drewN | apply below_drew1 | refine below_set ?_ GE146.out | refine below_set ?_ GE163.out) | exact HB.out)⟩
    ·replace c36 := Bool.eq_false_iff.mpr c36
     subst c36
     have H1 : (some false) = some r := by rw [if_neg (show ¬ (false = true) by decide)] at H; exact H
     clear H
     have H := H1
     clear H1
     obtain rfl := Option.some.inj H
     try go_wp2
     have n0_ := Aside0.mk (blk_drew BK146.out)
     have n1_ := Aside0.mk (below_drew1 HB.out)
     clear BK146
     clear HB
     have BK146 := n0_
     have HB := n1_
     clear n0_ n1_
     refine start_ (n := 13) (S := fun w' => w'.cell? ⟨gb146, 0, none⟩ = some (.int .i64 a2_0) ∧ w'.cell? ⟨gb146, 1, none⟩ = some (.int .i64 a2_1) ∧ w'.cell? ⟨gb146, 2, none⟩ = some (.int .i64 a2_2)) (ds := []) #[false, false, false, false, false, false, false, false, false, false, false, false, false] (by kernel_rfl) rfl rfl ⟨(blk_cell BK146.out 0).trans rfl, (blk_cell BK146.out 1).trans rfl, (blk_cell BK146.out 2).trans rfl⟩ (fun hHeld => ?_); refine with_tabW CI.tab9 CI.bits9 (fun HT_ HW_ => ?_)
     generalize wc.drew = w72 at BK146 HB hHeld ⊢
     refine pure_ (i := 0) (N := some 90) (v := ?_) (a' := ?_) #[true, false, false, false, false, false, false, false, false, false, false, false, false] rfl rfl (any_of HT_.out (by kernel_rfl)) (fun _ _ _ h => h) (Or.inl ⟨by rfl, ?_⟩) ?_ ?_
     rotate_left
     ·intro w'
      go_simp
      with_reducible rfl
     rotate_left
     ·simp only [Act.put, setIfInBounds_toArray, set_cons_zero, set_cons_succ, i64_w, i32_w]
      rfl
     refine pure_ (i := 4) (N := some 94) (v := ?_) (a' := ?_) #[true, false, false, false, true, false, false, false, false, false, false, false, false] rfl rfl (any_of HT_.out (by kernel_rfl)) (fun _ _ _ h => h) (Or.inl ⟨by rfl, ?_⟩) ?_ ?_
     rotate_left
     ·intro w'
      go_simp
      with_reducible rfl
     rotate_left
     ·simp only [Act.put, setIfInBounds_toArray, set_cons_zero, set_cons_succ, i64_w, i32_w]
      rfl
     refine pure_ (i := 7) (N := some 97) (v := ?_) (a' := ?_) #[true, false, false, false, true, false, false, true, false, false, false, false, false] rfl rfl (any_of HT_.out (by kernel_rfl)) (fun _ _ _ h => h) (Or.inl ⟨by rfl, ?_⟩) ?_ ?_
     rotate_left
     ·intro w'
      go_simp
      with_reducible rfl
     rotate_left
     ·simp only [Act.put, setIfInBounds_toArray, set_cons_zero, set_cons_succ, i64_w, i32_w]
      rfl
     refine take_ (i := 1) (N := some 91) (v := ?_) (a' := ?_) #[true, true, false, false, true, false, false, true, false, false, false, false, false] rfl rfl (take_ofW HT_.out HW_.out (by kernel_rfl)) (fun _ _ _ h => h) (Or.inl ⟨by rfl, ?_⟩) hHeld ?_ ?_
     rotate_left
     ·rintro w' ⟨s0, s1, s2⟩
      go_simp
      with_reducible rfl
     rotate_left
     ·simp only [Act.put, setIfInBounds_toArray, set_cons_zero, set_cons_succ, i64_w, i32_w]
      rfl
     refine take_ (i := 5) (N := some 95) (v := ?_) (a' := ?_) #[true, true, false, false, true, true, false, true, false, false, false, false, false] rfl rfl (take_ofW HT_.out HW_.out (by kernel_rfl)) (fun _ _ _ h => h) (Or.inl ⟨by rfl, ?_⟩) hHeld ?_ ?_
     rotate_left
     ·rintro w' ⟨s0, s1, s2⟩
      go_simp
      with_reducible rfl
     rotate_left
     ·simp only [Act.put, setIfInBounds_toArray, set_cons_zero, set_cons_succ, i64_w, i32_w]
      rfl
     refine take_ (i := 8) (N := some 98) (v := ?_) (a' := ?_) #[true, true, false, false, true, true, false, true, true, false, false, false, false] rfl rfl (take_ofW HT_.out HW_.out (by kernel_rfl)) (fun _ _ _ h => h) (Or.inl ⟨by rfl, ?_⟩) hHeld ?_ ?_
     rotate_left
     ·rintro w' ⟨s0, s1, s2⟩
      go_simp
      with_reducible rfl
     rotate_left
     ·simp only [Act.put, setIfInBounds_toArray, set_cons_zero, set_cons_succ, i64_w, i32_w]
      rfl
     refine join_ (σ := Nat) 1 #[true, true, true, true, true, true, true, true, true, true, true, true, false] (fun s_ => [(92, .int .i64 t160), (96, .int .i64 t161), (99, .int .i64 t162), (18, .pointer (some ⟨s_, 0, none⟩)), (93, .int .i64 (wrap64 (1999 + t160))), (100, .agg #[.int .i64 (wrap64 (1999 + t160)), .int .i64 t161, .int .i64 t162])]) (fun s_ w' => (w'.cell? ⟨gb146, 0, none⟩ = some (.int .i64 a2_0) ∧ w'.cell? ⟨gb146, 1, none⟩ = some (.int .i64 a2_1) ∧ w'.cell? ⟨gb146, 2, none⟩ = some (.int .i64 a2_2)) ∧ (w'.heap[gb146]? = some (.cells #[.int .i64 a2_0, .int .i64 a2_1, .int .i64 a2_2] 22 (0, 0))) ∧ (w'.heap[s_]? = some (.cells #[.int .i64 0, .int .i64 0, .int .i64 0] 22 (0, 0))) ∧ (w.heap.size ≤ s_) ∧ (w.heap.size ≤ s_) ∧ (gb146 ≠ s_) ∧ (s_ ≠ gb146) ∧ (Below w.heap.size w w')) ?_ ?_
     rotate_left
     ·intro hCont
      refine two_ (i := 2) (j := 11) (Ni := some 92) (Nj := some 18) #[true, true, true, false, true, true, false, true, true, false, false, false, false] #[true, true, false, false, true, true, false, true, true, false, false, true, false] rfl rfl rfl rfl (two_of HT_.out (by kernel_rfl)) (by decide) (by decide) (fun K hK => ?_) (fun K hK => ?_)
      ·skip
       refine goes_ Tryd.func10 (by kernel_rfl) rfl #[.int .i64 a2_0, .int .i64 102] (by rfl) rfl rfl (by (try simp only [List.map_toArray, List.map_cons, List.map_nil]); first | done | rfl | (simp only [List.length_drop, List.length_take]; rfl)) ?_
       with_reducible refine (wageofficelaw02_pick.calls a2_0 102 t160 _ A30.out).mono ?_
       rintro e w' ⟨rfl, ⟨nd, rfl⟩⟩
       refine ⟨_, rfl, ?_⟩
       refine hK.out _ _ ⟨(blk_cell BK146.out 0).trans rfl, (blk_cell BK146.out 1).trans rfl, (blk_cell BK146.out 2).trans rfl⟩ (fun hHeld => ?_)
       clear hK K
       refine norm_ (a' := ?_) ?_ ?_
       rotate_left
       ·show Act.put _ (some 92) _ = _
        simp only [Act.put, setIfInBounds_toArray, set_cons_zero, set_cons_succ, i64_w, i32_w]
        rfl
       refine pure_ (i := 3) (N := some 93) (v := ?_) (a' := ?_) #[true, true, true, true, true, true, false, true, true, false, false, false, false] rfl rfl (any_of HT_.out (by kernel_rfl)) (fun _ _ _ h => h) (Or.inl ⟨by rfl, ?_⟩) ?_ ?_
       rotate_left
       ·intro w'
        go_simp
        with_reducible rfl
       rotate_left
       ·simp only [Act.put, setIfInBounds_toArray, set_cons_zero, set_cons_succ, i64_w, i32_w]
        rfl
       refine two_ (i := 6) (j := 11) (Ni := some 96) (Nj := some 18) #[true, true, true, true, true, true, true, true, true, false, false, false, false] #[true, true, true, true, true, true, false, true, true, false, false, true, false] rfl rfl rfl rfl (two_of HT_.out (by kernel_rfl)) (by decide) (by decide) (fun K hK => ?_) (fun K hK => ?_)
       ·skip
        refine goes_ Tryd.func10 (by kernel_rfl) rfl #[.int .i64 a2_1, .int .i64 14] (by rfl) rfl rfl (by (try simp only [List.map_toArray, List.map_cons, List.map_nil]); first | done | rfl | (simp only [List.length_drop, List.length_take]; rfl)) ?_
        with_reducible refine (wageofficelaw02_pick.calls a2_1 14 t161 _ A31.out).mono ?_
        rintro e w' ⟨rfl, ⟨nd, rfl⟩⟩
        refine ⟨_, rfl, ?_⟩
        refine hK.out _ _ ⟨(blk_cell BK146.out 0).trans rfl, (blk_cell BK146.out 1).trans rfl, (blk_cell BK146.out 2).trans rfl⟩ (fun hHeld => ?_)
        clear hK K
        refine norm_ (a' := ?_) ?_ ?_
        rotate_left
        ·show Act.put _ (some 96) _ = _
         simp only [Act.put, setIfInBounds_toArray, set_cons_zero, set_cons_succ, i64_w, i32_w]
         rfl
        refine two_ (i := 9) (j := 11) (Ni := some 99) (Nj := some 18) #[true, true, true, true, true, true, true, true, true, true, false, false, false] #[true, true, true, true, true, true, true, true, true, false, false, true, false] rfl rfl rfl rfl (two_of HT_.out (by kernel_rfl)) (by decide) (by decide) (fun K hK => ?_) (fun K hK => ?_)
        ·skip
         refine goes_ Tryd.func10 (by kernel_rfl) rfl #[.int .i64 a2_2, .int .i64 33] (by rfl) rfl rfl (by (try simp only [List.map_toArray, List.map_cons, List.map_nil]); first | done | rfl | (simp only [List.length_drop, List.length_take]; rfl)) ?_
         with_reducible refine (wageofficelaw02_pick.calls a2_2 33 t162 _ A32.out).mono ?_
         rintro e w' ⟨rfl, ⟨nd, rfl⟩⟩
         refine ⟨_, rfl, ?_⟩
         refine hK.out _ _ ⟨(blk_cell BK146.out 0).trans rfl, (blk_cell BK146.out 1).trans rfl, (blk_cell BK146.out 2).trans rfl⟩ (fun hHeld => ?_)
         clear hK K
         refine norm_ (a' := ?_) ?_ ?_
         rotate_left
         ·show Act.put _ (some 99) _ = _
          simp only [Act.put, setIfInBounds_toArray, set_cons_zero, set_cons_succ, i64_w, i32_w]
          rfl
         refine pure_ (i := 10) (N := some 100) (v := ?_) (a' := ?_) #[true, true, true, true, true, true, true, true, true, true, true, false, false] rfl rfl (any_of HT_.out (by kernel_rfl)) (fun _ _ _ h => h) (Or.inl ⟨by rfl, ?_⟩) ?_ ?_
         rotate_left
         ·intro w'
          go_simp
          with_reducible rfl
         rotate_left
         ·simp only [Act.put, setIfInBounds_toArray, set_cons_zero, set_cons_succ, i64_w, i32_w]
          rfl
         refine one_ (i := 11) (N := some 18) #[true, true, true, true, true, true, true, true, true, true, true, true, false] rfl rfl (one_of HT_.out (by kernel_rfl)) (by decide) (fun K hK => ?_)
         refine box_step ?hg (N := 18) ?hd (cs := #[.int .i64 0, .int .i64 0, .int .i64 0]) (t := 22) ?hr ?_; (case hd => rfl); (case hg => rfl); (case hr => first | (go_simp; done) | (go_simp; rfl))
         intro gb163 hg w73 hbox hb
         have n0_ := Aside0.mk (blk_below (g := gb146) (o := .cells #[.int .i64 a2_0, .int .i64 a2_1, .int .i64 a2_2] 22 (0, 0)) (by (with_reducible repeat (first | refine blk_drewN ?_ _ | refine blk_drew ?_ | refine blk_alloc ?_ _)); exact BK146.out) hb)
         have n1_ := Aside0.mk (below_step (by repeat (first | (with_reducible first | exact HB.out | apply below_alloc | apply pw_below_drewN | apply below_drew1 | refine below_set ?_ GE146.out) | exact HB.out)) hb)
         have n2_ := Aside0.mk (hbox)
         have n3_ := Aside0.mk ((by rw [hg]; exact (below_size (by repeat (first | (with_reducible first | exact HB.out | apply below_alloc | apply pw_below_drewN | apply below_drew1 | refine below_set ?_ GE146.out) | exact HB.out))) : w.heap.size ≤ gb163))
         have n4_ := Aside0.mk ((by rw [hg]; exact (below_size (by repeat (first | (with_reducible first | exact HB.out | apply below_alloc | apply pw_below_drewN | apply below_drew1 | refine below_set ?_ GE146.out) | exact HB.out))) : w.heap.size ≤ gb163))
         have n5_ := Aside0.mk ((by rw [hg]; exact Nat.ne_of_lt (blk_lt (g := gb146) (o := .cells #[.int .i64 a2_0, .int .i64 a2_1, .int .i64 a2_2] 22 (0, 0)) (by (with_reducible repeat (first | refine blk_drewN ?_ _ | refine blk_drew ?_ | refine blk_alloc ?_ _)); exact BK146.out)) : gb146 ≠ gb163))
         have n6_ := Aside0.mk ((by rw [hg]; exact Nat.ne_of_gt (blk_lt (g := gb146) (o := .cells #[.int .i64 a2_0, .int .i64 a2_1, .int .i64 a2_2] 22 (0, 0)) (by (with_reducible repeat (first | refine blk_drewN ?_ _ | refine blk_drew ?_ | refine blk_alloc ?_ _)); exact BK146.out)) : gb163 ≠ gb146))
         clear BK146
         clear HB
         have BK146 := n0_
         have HB := n1_
         have BK163 := n2_
         have GW163 := n3_
         have GE163 := n4_
         have NB146_163 := n5_
         have NB163_146 := n6_
         clear n0_ n1_ n2_ n3_ n4_ n5_ n6_
         clear hb hbox hg
         refine hK.out _ _ ⟨(blk_cell BK146.out 0).trans rfl, (blk_cell BK146.out 1).trans rfl, (blk_cell BK146.out 2).trans rfl⟩ (fun hHeld => ?_)
         clear hK K
         refine norm_ (a' := ?_) ?_ ?_
         rotate_left
         ·show Act.put _ (some 18) _ = _
          simp only [Act.put, setIfInBounds_toArray, set_cons_zero, set_cons_succ, i64_w, i32_w]
          rfl
         exact norm_ (by simp only [putAll, Act.put, setIfInBounds_toArray, set_cons_zero, set_cons_succ]) (hCont (gb163) _ ⟨hHeld, (by (with_reducible repeat (first | refine blk_drewN ?_ _ | refine blk_drew ?_ | refine blk_alloc ?_ _)); exact BK146.out), (by (with_reducible repeat (first | refine blk_drewN ?_ _ | refine blk_drew ?_ | refine blk_alloc ?_ _)); exact BK163.out), GW163.out, GE163.out, NB146_163.out, NB163_146.out, (by repeat (first | (with_reducible first | exact HB.out | apply below_alloc | apply pw_below_drewN | apply below_drew1 | refine below_set ?_ GE146.out | refine below_set ?_ GE163.out) | exact HB.out))⟩)
        ·skip
         refine box_step ?hg (N := 18) ?hd (cs := #[.int .i64 0, .int .i64 0, .int .i64 0]) (t := 22) ?hr ?_; (case hd => rfl); (case hg => rfl); (case hr => first | (go_simp; done) | (go_simp; rfl))
         intro gb163 hg w73 hbox hb
         have n0_ := Aside0.mk (blk_below (g := gb146) (o := .cells #[.int .i64 a2_0, .int .i64 a2_1, .int .i64 a2_2] 22 (0, 0)) (by (with_reducible repeat (first | refine blk_drewN ?_ _ | refine blk_drew ?_ | refine blk_alloc ?_ _)); exact BK146.out) hb)
         have n1_ := Aside0.mk (below_step (by repeat (first | (with_reducible first | exact HB.out | apply below_alloc | apply pw_below_drewN | apply below_drew1 | refine below_set ?_ GE146.out) | exact HB.out)) hb)
         have n2_ := Aside0.mk (hbox)
         have n3_ := Aside0.mk ((by rw [hg]; exact (below_size (by repeat (first | (with_reducible first | exact HB.out | apply below_alloc | apply pw_below_drewN | apply below_drew1 | refine below_set ?_ GE146.out) | exact HB.out))) : w.heap.size ≤ gb163))
         have n4_ := Aside0.mk ((by rw [hg]; exact (below_size (by repeat (first | (with_reducible first | exact HB.out | apply below_alloc | apply pw_below_drewN | apply below_drew1 | refine below_set ?_ GE146.out) | exact HB.out))) : w.heap.size ≤ gb163))
         have n5_ := Aside0.mk ((by rw [hg]; exact Nat.ne_of_lt (blk_lt (g := gb146) (o := .cells #[.int .i64 a2_0, .int .i64 a2_1, .int .i64 a2_2] 22 (0, 0)) (by (with_reducible repeat (first | refine blk_drewN ?_ _ | refine blk_drew ?_ | refine blk_alloc ?_ _)); exact BK146.out)) : gb146 ≠ gb163))
         have n6_ := Aside0.mk ((by rw [hg]; exact Nat.ne_of_gt (blk_lt (g := gb146) (o := .cells #[.int .i64 a2_0, .int .i64 a2_1, .int .i64 a2_2] 22 (0, 0)) (by (with_reducible repeat (first | refine blk_drewN ?_ _ | refine blk_drew ?_ | refine blk_alloc ?_ _)); exact BK146.out)) : gb163 ≠ gb146))
         clear BK146
         clear HB
         have BK146 := n0_
         have HB := n1_
         have BK163 := n2_
         have GW163 := n3_
         have GE163 := n4_
         have NB146_163 := n5_
         have NB163_146 := n6_
         clear n0_ n1_ n2_ n3_ n4_ n5_ n6_
         clear hb hbox hg
         refine hK.out _ _ ⟨(blk_cell BK146.out 0).trans rfl, (blk_cell BK146.out 1).trans rfl, (blk_cell BK146.out 2).trans rfl⟩ (fun hHeld => ?_)
         clear hK K
         refine norm_ (a' := ?_) ?_ ?_
         rotate_left
         ·show Act.put _ (some 18) _ = _
          simp only [Act.put, setIfInBounds_toArray, set_cons_zero, set_cons_succ, i64_w, i32_w]
          rfl
         refine one_ (i := 9) (N := some 99) #[true, true, true, true, true, true, true, true, true, true, false, true, false] rfl rfl (one_of HT_.out (by kernel_rfl)) (by decide) (fun K hK => ?_)
         refine goes_ Tryd.func10 (by kernel_rfl) rfl #[.int .i64 a2_2, .int .i64 33] (by rfl) rfl rfl (by (try simp only [List.map_toArray, List.map_cons, List.map_nil]); first | done | rfl | (simp only [List.length_drop, List.length_take]; rfl)) ?_
         with_reducible refine (wageofficelaw02_pick.calls a2_2 33 t162 _ A32.out).mono ?_
         rintro e w' ⟨rfl, ⟨nd, rfl⟩⟩
         refine ⟨_, rfl, ?_⟩
         refine hK.out _ _ ⟨(blk_cell BK146.out 0).trans rfl, (blk_cell BK146.out 1).trans rfl, (blk_cell BK146.out 2).trans rfl⟩ (fun hHeld => ?_)
         clear hK K
         refine norm_ (a' := ?_) ?_ ?_
         rotate_left
         ·show Act.put _ (some 99) _ = _
          simp only [Act.put, setIfInBounds_toArray, set_cons_zero, set_cons_succ, i64_w, i32_w]
          rfl
         refine pure_ (i := 10) (N := some 100) (v := ?_) (a' := ?_) #[true, true, true, true, true, true, true, true, true, true, true, true, false] rfl rfl (any_of HT_.out (by kernel_rfl)) (fun _ _ _ h => h) (Or.inl ⟨by rfl, ?_⟩) ?_ ?_
         rotate_left
         ·intro w'
          go_simp
          with_reducible rfl
         rotate_left
         ·simp only [Act.put, setIfInBounds_toArray, set_cons_zero, set_cons_succ, i64_w, i32_w]
          rfl
         exact norm_ (by simp only [putAll, Act.put, setIfInBounds_toArray, set_cons_zero, set_cons_succ]) (hCont (gb163) _ ⟨hHeld, (by (with_reducible repeat (first | refine blk_drewN ?_ _ | refine blk_drew ?_ | refine blk_alloc ?_ _)); exact BK146.out), (by (with_reducible repeat (first | refine blk_drewN ?_ _ | refine blk_drew ?_ | refine blk_alloc ?_ _)); exact BK163.out), GW163.out, GE163.out, NB146_163.out, NB163_146.out, (by repeat (first | (with_reducible first | exact HB.out | apply below_alloc | apply pw_below_drewN | apply below_drew1 | refine below_set ?_ GE146.out | refine below_set ?_ GE163.out) | exact HB.out))⟩)
       ·skip
        refine box_step ?hg (N := 18) ?hd (cs := #[.int .i64 0, .int .i64 0, .int .i64 0]) (t := 22) ?hr ?_; (case hd => rfl); (case hg => rfl); (case hr => first | (go_simp; done) | (go_simp; rfl))
        intro gb163 hg w73 hbox hb
        have n0_ := Aside0.mk (blk_below (g := gb146) (o := .cells #[.int .i64 a2_0, .int .i64 a2_1, .int .i64 a2_2] 22 (0, 0)) (by (with_reducible repeat (first | refine blk_drewN ?_ _ | refine blk_drew ?_ | refine blk_alloc ?_ _)); exact BK146.out) hb)
        have n1_ := Aside0.mk (below_step (by repeat (first | (with_reducible first | exact HB.out | apply below_alloc | apply pw_below_drewN | apply below_drew1 | refine below_set ?_ GE146.out) | exact HB.out)) hb)
        have n2_ := Aside0.mk (hbox)
        have n3_ := Aside0.mk ((by rw [hg]; exact (below_size (by repeat (first | (with_reducible first | exact HB.out | apply below_alloc | apply pw_below_drewN | apply below_drew1 | refine below_set ?_ GE146.out) | exact HB.out))) : w.heap.size ≤ gb163))
        have n4_ := Aside0.mk ((by rw [hg]; exact (below_size (by repeat (first | (with_reducible first | exact HB.out | apply below_alloc | apply pw_below_drewN | apply below_drew1 | refine below_set ?_ GE146.out) | exact HB.out))) : w.heap.size ≤ gb163))
        have n5_ := Aside0.mk ((by rw [hg]; exact Nat.ne_of_lt (blk_lt (g := gb146) (o := .cells #[.int .i64 a2_0, .int .i64 a2_1, .int .i64 a2_2] 22 (0, 0)) (by (with_reducible repeat (first | refine blk_drewN ?_ _ | refine blk_drew ?_ | refine blk_alloc ?_ _)); exact BK146.out)) : gb146 ≠ gb163))
        have n6_ := Aside0.mk ((by rw [hg]; exact Nat.ne_of_gt (blk_lt (g := gb146) (o := .cells #[.int .i64 a2_0, .int .i64 a2_1, .int .i64 a2_2] 22 (0, 0)) (by (with_reducible repeat (first | refine blk_drewN ?_ _ | refine blk_drew ?_ | refine blk_alloc ?_ _)); exact BK146.out)) : gb163 ≠ gb146))
        clear BK146
        clear HB
        have BK146 := n0_
        have HB := n1_
        have BK163 := n2_
        have GW163 := n3_
        have GE163 := n4_
        have NB146_163 := n5_
        have NB163_146 := n6_
        clear n0_ n1_ n2_ n3_ n4_ n5_ n6_
        clear hb hbox hg
        refine hK.out _ _ ⟨(blk_cell BK146.out 0).trans rfl, (blk_cell BK146.out 1).trans rfl, (blk_cell BK146.out 2).trans rfl⟩ (fun hHeld => ?_)
        clear hK K
        refine norm_ (a' := ?_) ?_ ?_
        rotate_left
        ·show Act.put _ (some 18) _ = _
         simp only [Act.put, setIfInBounds_toArray, set_cons_zero, set_cons_succ, i64_w, i32_w]
         rfl
        refine one_ (i := 6) (N := some 96) #[true, true, true, true, true, true, true, true, true, false, false, true, false] rfl rfl (one_of HT_.out (by kernel_rfl)) (by decide) (fun K hK => ?_)
        refine goes_ Tryd.func10 (by kernel_rfl) rfl #[.int .i64 a2_1, .int .i64 14] (by rfl) rfl rfl (by (try simp only [List.map_toArray, List.map_cons, List.map_nil]); first | done | rfl | (simp only [List.length_drop, List.length_take]; rfl)) ?_
        with_reducible refine (wageofficelaw02_pick.calls a2_1 14 t161 _ A31.out).mono ?_
        rintro e w' ⟨rfl, ⟨nd, rfl⟩⟩
        refine ⟨_, rfl, ?_⟩
        refine hK.out _ _ ⟨(blk_cell BK146.out 0).trans rfl, (blk_cell BK146.out 1).trans rfl, (blk_cell BK146.out 2).trans rfl⟩ (fun hHeld => ?_)
        clear hK K
        refine norm_ (a' := ?_) ?_ ?_
        rotate_left
        ·show Act.put _ (some 96) _ = _
         simp only [Act.put, setIfInBounds_toArray, set_cons_zero, set_cons_succ, i64_w, i32_w]
         rfl
        refine one_ (i := 9) (N := some 99) #[true, true, true, true, true, true, true, true, true, true, false, true, false] rfl rfl (one_of HT_.out (by kernel_rfl)) (by decide) (fun K hK => ?_)
        refine goes_ Tryd.func10 (by kernel_rfl) rfl #[.int .i64 a2_2, .int .i64 33] (by rfl) rfl rfl (by (try simp only [List.map_toArray, List.map_cons, List.map_nil]); first | done | rfl | (simp only [List.length_drop, List.length_take]; rfl)) ?_
        with_reducible refine (wageofficelaw02_pick.calls a2_2 33 t162 _ A32.out).mono ?_
        rintro e w' ⟨rfl, ⟨nd, rfl⟩⟩
        refine ⟨_, rfl, ?_⟩
        refine hK.out _ _ ⟨(blk_cell BK146.out 0).trans rfl, (blk_cell BK146.out 1).trans rfl, (blk_cell BK146.out 2).trans rfl⟩ (fun hHeld => ?_)
        clear hK K
        refine norm_ (a' := ?_) ?_ ?_
        rotate_left
        ·show Act.put _ (some 99) _ = _
         simp only [Act.put, setIfInBounds_toArray, set_cons_zero, set_cons_succ, i64_w, i32_w]
         rfl
        refine pure_ (i := 10) (N := some 100) (v := ?_) (a' := ?_) #[true, true, true, true, true, true, true, true, true, true, true, true, false] rfl rfl (any_of HT_.out (by kernel_rfl)) (fun _ _ _ h => h) (Or.inl ⟨by rfl, ?_⟩) ?_ ?_
        rotate_left
        ·intro w'
         go_simp
         with_reducible rfl
        rotate_left
        ·simp only [Act.put, setIfInBounds_toArray, set_cons_zero, set_cons_succ, i64_w, i32_w]
         rfl
        exact norm_ (by simp only [putAll, Act.put, setIfInBounds_toArray, set_cons_zero, set_cons_succ]) (hCont (gb163) _ ⟨hHeld, (by (with_reducible repeat (first | refine blk_drewN ?_ _ | refine blk_drew ?_ | refine blk_alloc ?_ _)); exact BK146.out), (by (with_reducible repeat (first | refine blk_drewN ?_ _ | refine blk_drew ?_ | refine blk_alloc ?_ _)); exact BK163.out), GW163.out, GE163.out, NB146_163.out, NB163_146.out, (by repeat (first | (with_reducible first | exact HB.out | apply below_alloc | apply pw_below_drewN | apply below_drew1 | refine below_set ?_ GE146.out | refine below_set ?_ GE163.out) | exact HB.out))⟩)
      ·skip
       refine box_step ?hg (N := 18) ?hd (cs := #[.int .i64 0, .int .i64 0, .int .i64 0]) (t := 22) ?hr ?_; (case hd => rfl); (case hg => rfl); (case hr => first | (go_simp; done) | (go_simp; rfl))
       intro gb163 hg w73 hbox hb
       have n0_ := Aside0.mk (blk_below (g := gb146) (o := .cells #[.int .i64 a2_0, .int .i64 a2_1, .int .i64 a2_2] 22 (0, 0)) (by (with_reducible repeat (first | refine blk_drewN ?_ _ | refine blk_drew ?_ | refine blk_alloc ?_ _)); exact BK146.out) hb)
       have n1_ := Aside0.mk (below_step (by repeat (first | (with_reducible first | exact HB.out | apply below_alloc | apply pw_below_drewN | apply below_drew1 | refine below_set ?_ GE146.out) | exact HB.out)) hb)
       have n2_ := Aside0.mk (hbox)
       have n3_ := Aside0.mk ((by rw [hg]; exact (below_size (by repeat (first | (with_reducible first | exact HB.out | apply below_alloc | apply pw_below_drewN | apply below_drew1 | refine below_set ?_ GE146.out) | exact HB.out))) : w.heap.size ≤ gb163))
       have n4_ := Aside0.mk ((by rw [hg]; exact (below_size (by repeat (first | (with_reducible first | exact HB.out | apply below_alloc | apply pw_below_drewN | apply below_drew1 | refine below_set ?_ GE146.out) | exact HB.out))) : w.heap.size ≤ gb163))
       have n5_ := Aside0.mk ((by rw [hg]; exact Nat.ne_of_lt (blk_lt (g := gb146) (o := .cells #[.int .i64 a2_0, .int .i64 a2_1, .int .i64 a2_2] 22 (0, 0)) (by (with_reducible repeat (first | refine blk_drewN ?_ _ | refine blk_drew ?_ | refine blk_alloc ?_ _)); exact BK146.out)) : gb146 ≠ gb163))
       have n6_ := Aside0.mk ((by rw [hg]; exact Nat.ne_of_gt (blk_lt (g := gb146) (o := .cells #[.int .i64 a2_0, .int .i64 a2_1, .int .i64 a2_2] 22 (0, 0)) (by (with_reducible repeat (first | refine blk_drewN ?_ _ | refine blk_drew ?_ | refine blk_alloc ?_ _)); exact BK146.out)) : gb163 ≠ gb146))
       clear BK146
       clear HB
       have BK146 := n0_
       have HB := n1_
       have BK163 := n2_
       have GW163 := n3_
       have GE163 := n4_
       have NB146_163 := n5_
       have NB163_146 := n6_
       clear n0_ n1_ n2_ n3_ n4_ n5_ n6_
       clear hb hbox hg
       refine hK.out _ _ ⟨(blk_cell BK146.out 0).trans rfl, (blk_cell BK146.out 1).trans rfl, (blk_cell BK146.out 2).trans rfl⟩ (fun hHeld => ?_)
       clear hK K
       refine norm_ (a' := ?_) ?_ ?_
       rotate_left
       ·show Act.put _ (some 18) _ = _
        simp only [Act.put, setIfInBounds_toArray, set_cons_zero, set_cons_succ, i64_w, i32_w]
        rfl
       refine one_ (i := 2) (N := some 92) #[true, true, true, false, true, true, false, true, true, false, false, true, false] rfl rfl (one_of HT_.out (by kernel_rfl)) (by decide) (fun K hK => ?_)
       refine goes_ Tryd.func10 (by kernel_rfl) rfl #[.int .i64 a2_0, .int .i64 102] (by rfl) rfl rfl (by (try simp only [List.map_toArray, List.map_cons, List.map_nil]); first | done | rfl | (simp only [List.length_drop, List.length_take]; rfl)) ?_
       with_reducible refine (wageofficelaw02_pick.calls a2_0 102 t160 _ A30.out).mono ?_
       rintro e w' ⟨rfl, ⟨nd, rfl⟩⟩
       refine ⟨_, rfl, ?_⟩
       refine hK.out _ _ ⟨(blk_cell BK146.out 0).trans rfl, (blk_cell BK146.out 1).trans rfl, (blk_cell BK146.out 2).trans rfl⟩ (fun hHeld => ?_)
       clear hK K
       refine norm_ (a' := ?_) ?_ ?_
       rotate_left
       ·show Act.put _ (some 92) _ = _
        simp only [Act.put, setIfInBounds_toArray, set_cons_zero, set_cons_succ, i64_w, i32_w]
        rfl
       refine pure_ (i := 3) (N := some 93) (v := ?_) (a' := ?_) #[true, true, true, true, true, true, false, true, true, false, false, true, false] rfl rfl (any_of HT_.out (by kernel_rfl)) (fun _ _ _ h => h) (Or.inl ⟨by rfl, ?_⟩) ?_ ?_
       rotate_left
       ·intro w'
        go_simp
        with_reducible rfl
       rotate_left
       ·simp only [Act.put, setIfInBounds_toArray, set_cons_zero, set_cons_succ, i64_w, i32_w]
        rfl
       refine one_ (i := 6) (N := some 96) #[true, true, true, true, true, true, true, true, true, false, false, true, false] rfl rfl (one_of HT_.out (by kernel_rfl)) (by decide) (fun K hK => ?_)
       refine goes_ Tryd.func10 (by kernel_rfl) rfl #[.int .i64 a2_1, .int .i64 14] (by rfl) rfl rfl (by (try simp only [List.map_toArray, List.map_cons, List.map_nil]); first | done | rfl | (simp only [List.length_drop, List.length_take]; rfl)) ?_
       with_reducible refine (wageofficelaw02_pick.calls a2_1 14 t161 _ A31.out).mono ?_
       rintro e w' ⟨rfl, ⟨nd, rfl⟩⟩
       refine ⟨_, rfl, ?_⟩
       refine hK.out _ _ ⟨(blk_cell BK146.out 0).trans rfl, (blk_cell BK146.out 1).trans rfl, (blk_cell BK146.out 2).trans rfl⟩ (fun hHeld => ?_)
       clear hK K
       refine norm_ (a' := ?_) ?_ ?_
       rotate_left
       ·show Act.put _ (some 96) _ = _
        simp only [Act.put, setIfInBounds_toArray, set_cons_zero, set_cons_succ, i64_w, i32_w]
        rfl
       refine one_ (i := 9) (N := some 99) #[true, true, true, true, true, true, true, true, true, true, false, true, false] rfl rfl (one_of HT_.out (by kernel_rfl)) (by decide) (fun K hK => ?_)
       refine goes_ Tryd.func10 (by kernel_rfl) rfl #[.int .i64 a2_2, .int .i64 33] (by rfl) rfl rfl (by (try simp only [List.map_toArray, List.map_cons, List.map_nil]); first | done | rfl | (simp only [List.length_drop, List.length_take]; rfl)) ?_
       with_reducible refine (wageofficelaw02_pick.calls a2_2 33 t162 _ A32.out).mono ?_
       rintro e w' ⟨rfl, ⟨nd, rfl⟩⟩
       refine ⟨_, rfl, ?_⟩
       refine hK.out _ _ ⟨(blk_cell BK146.out 0).trans rfl, (blk_cell BK146.out 1).trans rfl, (blk_cell BK146.out 2).trans rfl⟩ (fun hHeld => ?_)
       clear hK K
       refine norm_ (a' := ?_) ?_ ?_
       rotate_left
       ·show Act.put _ (some 99) _ = _
        simp only [Act.put, setIfInBounds_toArray, set_cons_zero, set_cons_succ, i64_w, i32_w]
        rfl
       refine pure_ (i := 10) (N := some 100) (v := ?_) (a' := ?_) #[true, true, true, true, true, true, true, true, true, true, true, true, false] rfl rfl (any_of HT_.out (by kernel_rfl)) (fun _ _ _ h => h) (Or.inl ⟨by rfl, ?_⟩) ?_ ?_
       rotate_left
       ·intro w'
        go_simp
        with_reducible rfl
       rotate_left
       ·simp only [Act.put, setIfInBounds_toArray, set_cons_zero, set_cons_succ, i64_w, i32_w]
        rfl
       exact norm_ (by simp only [putAll, Act.put, setIfInBounds_toArray, set_cons_zero, set_cons_succ]) (hCont (gb163) _ ⟨hHeld, (by (with_reducible repeat (first | refine blk_drewN ?_ _ | refine blk_drew ?_ | refine blk_alloc ?_ _)); exact BK146.out), (by (with_reducible repeat (first | refine blk_drewN ?_ _ | refine blk_drew ?_ | refine blk_alloc ?_ _)); exact BK163.out), GW163.out, GE163.out, NB146_163.out, NB163_146.out, (by repeat (first | (with_reducible first | exact HB.out | apply below_alloc | apply pw_below_drewN | apply below_drew1 | refine below_set ?_ GE146.out | refine below_set ?_ GE163.out) | exact HB.out))⟩)
     rintro gb163 w74 ⟨hS_, h0_, h1_, h2_, h3_, h4_, h5_, h6_⟩
     have n0_ : Aside0 (w74.heap[gb146]? = some (.cells #[.int .i64 a2_0, .int .i64 a2_1, .int .i64 a2_2] 22 (0, 0))) := ⟨h0_⟩
     have n1_ : Aside0 (w74.heap[gb163]? = some (.cells #[.int .i64 0, .int .i64 0, .int .i64 0] 22 (0, 0))) := ⟨h1_⟩
     have n2_ : Aside0 (w.heap.size ≤ gb163) := ⟨h2_⟩
     have n3_ : Aside0 (w.heap.size ≤ gb163) := ⟨h3_⟩
     have n4_ : Aside0 (gb146 ≠ gb163) := ⟨h4_⟩
     have n5_ : Aside0 (gb163 ≠ gb146) := ⟨h5_⟩
     have n6_ : Aside0 (Below w.heap.size w w74) := ⟨h6_⟩
     clear BK146
     clear HB
     clear h0_ h1_ h2_ h3_ h4_ h5_ h6_
     have BK146 := n0_
     have BK163 := n1_
     have GW163 := n2_
     have GE163 := n3_
     have NB146_163 := n4_
     have NB163_146 := n5_
     have HB := n6_
     clear n0_ n1_ n2_ n3_ n4_ n5_ n6_
     have hHeld : w74.cell? ⟨gb146, 0, none⟩ = some (.int .i64 a2_0) ∧ w74.cell? ⟨gb146, 1, none⟩ = some (.int .i64 a2_1) ∧ w74.cell? ⟨gb146, 2, none⟩ = some (.int .i64 a2_2) := hS_
     refine norm_ (a' := ?_) ?_ ?_
     rotate_left
     ·simp only [putAll, Act.put, setIfInBounds_toArray, set_cons_zero, set_cons_succ]
      rfl
     refine one_ (i := 12) (N := none) #[true, true, true, true, true, true, true, true, true, true, true, true, true] rfl rfl (one_of HT_.out (by kernel_rfl)) (by decide) (fun K hK => ?_)
     have hs75 : w74.cell? ⟨gb163, 0, none⟩ = some (.int .i64 0) := (blk_cell BK163.out 0).trans rfl
     have hfs75 := blk_frozen BK163.out 0
     have hns75_0 := NB146_163.out
     have hms75_0 := NB163_146.out
     have hs76 : w74.cell? ⟨gb163, 1, none⟩ = some (.int .i64 0) := (blk_cell BK163.out 1).trans rfl
     have hfs76 := blk_frozen BK163.out 1
     have hns76_0 := NB146_163.out
     have hms76_0 := NB163_146.out
     have hs77 : w74.cell? ⟨gb163, 2, none⟩ = some (.int .i64 0) := (blk_cell BK163.out 2).trans rfl
     have hfs77 := blk_frozen BK163.out 2
     have hns77_0 := NB146_163.out
     have hms77_0 := NB163_146.out
     refine skip_ (w1 := ?_) (by rfl) rfl ?_ ?_
     rotate_left
     ·go_simp
      rfl
     refine hK.out _ _ ⟨((cell_far (p := ⟨gb163, _, none⟩) NB146_163.out _).trans (((cell_far (p := ⟨gb163, _, none⟩) NB146_163.out _).trans (((cell_far (p := ⟨gb163, _, none⟩) NB146_163.out _).trans (hHeld.1)))))), ((cell_far (p := ⟨gb163, _, none⟩) NB146_163.out _).trans (((cell_far (p := ⟨gb163, _, none⟩) NB146_163.out _).trans (((cell_far (p := ⟨gb163, _, none⟩) NB146_163.out _).trans (hHeld.2.1)))))), ((cell_far (p := ⟨gb163, _, none⟩) NB146_163.out _).trans (((cell_far (p := ⟨gb163, _, none⟩) NB146_163.out _).trans (((cell_far (p := ⟨gb163, _, none⟩) NB146_163.out _).trans (hHeld.2.2))))))⟩ (fun hHeld => ?_)
     clear hK K
     refine done_ (done_of HT_.out (by kernel_rfl)) ?_
     have hnb78 := NB163_146.out
     have hnc78 := NB146_163.out
     have hcz79_0 : w74.cell? ⟨gb163, 0, none⟩ = some (.int .i64 0) := (blk_cell BK163.out 0).trans rfl
     have hcz79_1 : w74.cell? ⟨gb163, 1, none⟩ = some (.int .i64 0) := (blk_cell BK163.out 1).trans rfl
     have hcz79_2 : w74.cell? ⟨gb163, 2, none⟩ = some (.int .i64 0) := (blk_cell BK163.out 2).trans rfl
     have hfz79_0 := blk_frozen BK163.out 0
     have hfz79_1 := blk_frozen BK163.out 1
     have hfz79_2 := blk_frozen BK163.out 2
     try go_wp2_with (first | ((with_reducible refine gate_callee (f := 25) rfl ?_); refine goesL_ (some 108) rfl rfl Tryd.func25 (by kernel_rfl) rfl #[.int .i64 (wrap64 (1999 + t160)), .int .i64 t161, .int .i64 t162] rfl (by (try simp only [List.map_toArray, List.map_cons, List.map_nil]); first | done | rfl | (simp only [List.length_drop, List.length_take]; rfl)) ?_; (with_reducible refine (calendar_Day.calls (wrap64 (1999 + t160)) t161 t162 t164 t165 _ A33.out (TabBefore.below hTBefore.out (by repeat (first | exact HB.out | apply below_alloc | apply pw_below_drewN | apply below_drew1 | refine below_set ?_ GE146.out | refine below_set ?_ GE163.out)))).mono ?_); rintro e w80 ⟨rfl, hb⟩; refine ⟨_, rfl, ?_⟩; have n0_ := Aside0.mk (blk_below (g := gb146) (o := .cells #[.int .i64 a2_0, .int .i64 a2_1, .int .i64 a2_2] 22 (0, 0)) (by (with_reducible repeat (first | refine blk_drewN ?_ _ | refine blk_drew ?_ | refine blk_alloc ?_ _)); refine blk_far ?_ NB146_163.out _; (with_reducible repeat (first | refine blk_drewN ?_ _ | refine blk_drew ?_ | refine blk_alloc ?_ _)); refine blk_far ?_ NB146_163.out _; (with_reducible repeat (first | refine blk_drewN ?_ _ | refine blk_drew ?_ | refine blk_alloc ?_ _)); refine blk_far ?_ NB146_163.out _; (with_reducible repeat (first | refine blk_drewN ?_ _ | refine blk_drew ?_ | refine blk_alloc ?_ _)); exact BK146.out) hb); have n1_ := Aside0.mk (blk_below (g := gb163) (o := .cells #[.int .i64 (wrap64 (1999 + t160)), .int .i64 t161, .int .i64 t162] 22 (0, 0)) (by (with_reducible repeat (first | refine blk_drewN ?_ _ | refine blk_drew ?_ | refine blk_alloc ?_ _)); refine blk_put (cs := #[.int .i64 (wrap64 (1999 + t160)), .int .i64 t161, .int .i64 0]) ?_ 2 _ rfl; (with_reducible repeat (first | refine blk_drewN ?_ _ | refine blk_drew ?_ | refine blk_alloc ?_ _)); refine blk_put (cs := #[.int .i64 (wrap64 (1999 + t160)), .int .i64 0, .int .i64 0]) ?_ 1 _ rfl; (with_reducible repeat (first | refine blk_drewN ?_ _ | refine blk_drew ?_ | refine blk_alloc ?_ _)); refine blk_put (cs := #[.int .i64 0, .int .i64 0, .int .i64 0]) ?_ 0 _ rfl; (with_reducible repeat (first | refine blk_drewN ?_ _ | refine blk_drew ?_ | refine blk_alloc ?_ _)); exact BK163.out) hb); have n2_ := Aside0.mk (below_step (by repeat (first | (with_reducible first | exact HB.out | apply below_alloc | apply pw_below_drewN | apply below_drew1 | refine below_set ?_ GE146.out | refine below_set ?_ GE163.out) | exact HB.out)) hb); clear BK146; clear BK163; clear HB; have BK146 := n0_; have BK163 := n1_; have HB := n2_; clear n0_ n1_ n2_; (try clear hb); (try clear hb2); (try clear hk); (try clear hi)) | ((with_reducible refine gate_callee (f := 11) rfl ?_); refine goesL_ (some 124) rfl rfl Tryd.func11 (by kernel_rfl) rfl #[.int .i64 t164] rfl (by (try simp only [List.map_toArray, List.map_cons, List.map_nil]); first | done | rfl | (simp only [List.length_drop, List.length_take]; rfl)) ?_; (with_reducible refine (calendar_Date.calls t164 t166 t167 t168 _ A35.out (TabBefore.below hTBefore.out (by repeat (first | exact HB.out | apply below_alloc | apply pw_below_drewN | apply below_drew1 | refine below_set ?_ GE146.out | refine below_set ?_ GE163.out)))).mono ?_); rintro e w81 ⟨rfl, hb⟩; refine ⟨_, rfl, ?_⟩; have n0_ := Aside0.mk (blk_below (g := gb146) (o := .cells #[.int .i64 a2_0, .int .i64 a2_1, .int .i64 a2_2] 22 (0, 0)) (by (with_reducible repeat (first | refine blk_drewN ?_ _ | refine blk_drew ?_ | refine blk_alloc ?_ _)); exact BK146.out) hb); have n1_ := Aside0.mk (blk_below (g := gb163) (o := .cells #[.int .i64 (wrap64 (1999 + t160)), .int .i64 t161, .int .i64 t162] 22 (0, 0)) (by (with_reducible repeat (first | refine blk_drewN ?_ _ | refine blk_drew ?_ | refine blk_alloc ?_ _)); exact BK163.out) hb); have n2_ := Aside0.mk (below_step (by repeat (first | (with_reducible first | exact HB.out | apply below_alloc | apply pw_below_drewN | apply below_drew1 | refine below_set ?_ GE146.out | refine below_set ?_ GE163.out) | exact HB.out)) hb); clear BK146; clear BK163; clear HB; have BK146 := n0_; have BK163 := n1_; have HB := n2_; clear n0_ n1_ n2_; (try clear hb); (try clear hb2); (try clear hk); (try clear hi)))
     go_ret
     exact ⟨by first | rfl | (simp [errW_none, errW_some] <;> rfl) | (simp [*, errW_none, errW_some] <;> rfl), by repeat (first | (with_reducible first | exact HB.out | apply below_alloc | apply pw_below_drewN | apply below_drew1 | refine below_set ?_ GE146.out | refine below_set ?_ GE163.out) | exact HB.out)⟩
   ·rw [if_neg c34] at H
    have c34b0 : (t165 == 0) = false := beq_eq_false_iff_ne.mpr c34
    have c34b1 : (t165 != 0) = true := bne_iff_ne.mpr c34
    by_cases c82 : x7_10 = true
    ·subst c82
     have H1 : (if t165 = 21 then (some (t164 == 0)) else (some false)) = some r := by rw [if_pos rfl] at H; exact H
     clear H
     have H := H1
     clear H1
     by_cases c83 : t165 = 21
     ·rw [if_pos c83] at H
      have c83b0 : (t165 == 21) = true := beq_iff_eq.mpr c83
      have c83b1 : (t165 != 21) = false := bne_eq_false_iff_eq.mpr c83
      clear c83
      obtain rfl := Option.some.inj H
      try go_wp2
      have n0_ := Aside0.mk (blk_drew BK146.out)
      have n1_ := Aside0.mk (below_drew1 HB.out)
      clear BK146
      clear HB
      have BK146 := n0_
      have HB := n1_
      clear n0_ n1_
      refine start_ (n := 13) (S := fun w' => w'.cell? ⟨gb146, 0, none⟩ = some (.int .i64 a2_0) ∧ w'.cell? ⟨gb146, 1, none⟩ = some (.int .i64 a2_1) ∧ w'.cell? ⟨gb146, 2, none⟩ = some (.int .i64 a2_2)) (ds := []) #[false, false, false, false, false, false, false, false, false, false, false, false, false] (by kernel_rfl) rfl rfl ⟨(blk_cell BK146.out 0).trans rfl, (blk_cell BK146.out 1).trans rfl, (blk_cell BK146.out 2).trans rfl⟩ (fun hHeld => ?_); refine with_tabW CI.tab9 CI.bits9 (fun HT_ HW_ => ?_)
      generalize wc.drew = w84 at BK146 HB hHeld ⊢
      refine pure_ (i := 0) (N := some 90) (v := ?_) (a' := ?_) #[true, false, false, false, false, false, false, false, false, false, false, false, false] rfl rfl (any_of HT_.out (by kernel_rfl)) (fun _ _ _ h => h) (Or.inl ⟨by rfl, ?_⟩) ?_ ?_
      rotate_left
      ·intro w'
       go_simp
       with_reducible rfl
      rotate_left
      ·simp only [Act.put, setIfInBounds_toArray, set_cons_zero, set_cons_succ, i64_w, i32_w]
       rfl
      refine pure_ (i := 4) (N := some 94) (v := ?_) (a' := ?_) #[true, false, false, false, true, false, false, false, false, false, false, false, false] rfl rfl (any_of HT_.out (by kernel_rfl)) (fun _ _ _ h => h) (Or.inl ⟨by rfl, ?_⟩) ?_ ?_
      rotate_left
      ·intro w'
       go_simp
       with_reducible rfl
      rotate_left
      ·simp only [Act.put, setIfInBounds_toArray, set_cons_zero, set_cons_succ, i64_w, i32_w]
       rfl
      refine pure_ (i := 7) (N := some 97) (v := ?_) (a' := ?_) #[true, false, false, false, true, false, false, true, false, false, false, false, false] rfl rfl (any_of HT_.out (by kernel_rfl)) (fun _ _ _ h => h) (Or.inl ⟨by rfl, ?_⟩) ?_ ?_
      rotate_left
      ·intro w'
       go_simp
       with_reducible rfl
      rotate_left
      ·simp only [Act.put, setIfInBounds_toArray, set_cons_zero, set_cons_succ, i64_w, i32_w]
       rfl
      refine take_ (i := 1) (N := some 91) (v := ?_) (a' := ?_) #[true, true, false, false, true, false, false, true, false, false, false, false, false] rfl rfl (take_ofW HT_.out HW_.out (by kernel_rfl)) (fun _ _ _ h => h) (Or.inl ⟨by rfl, ?_⟩) hHeld ?_ ?_
      rotate_left
      ·rintro w' ⟨s0, s1, s2⟩
       go_simp
       with_reducible rfl
      rotate_left
      ·simp only [Act.put, setIfInBounds_toArray, set_cons_zero, set_cons_succ, i64_w, i32_w]
       rfl
      refine take_ (i := 5) (N := some 95) (v := ?_) (a' := ?_) #[true, true, false, false, true, true, false, true, false, false, false, false, false] rfl rfl (take_ofW HT_.out HW_.out (by kernel_rfl)) (fun _ _ _ h => h) (Or.inl ⟨by rfl, ?_⟩) hHeld ?_ ?_
      rotate_left
      ·rintro w' ⟨s0, s1, s2⟩
       go_simp
       with_reducible rfl
      rotate_left
      ·simp only [Act.put, setIfInBounds_toArray, set_cons_zero, set_cons_succ, i64_w, i32_w]
       rfl
      refine take_ (i := 8) (N := some 98) (v := ?_) (a' := ?_) #[true, true, false, false, true, true, false, true, true, false, false, false, false] rfl rfl (take_ofW HT_.out HW_.out (by kernel_rfl)) (fun _ _ _ h => h) (Or.inl ⟨by rfl, ?_⟩) hHeld ?_ ?_
      rotate_left
      ·rintro w' ⟨s0, s1, s2⟩
       go_simp
       with_reducible rfl
      rotate_left
      ·simp only [Act.put, setIfInBounds_toArray, set_cons_zero, set_cons_succ, i64_w, i32_w]
       rfl
      refine join_ (σ := Nat) 1 #[true, true, true, true, true, true, true, true, true, true, true, true, false] (fun s_ => [(92, .int .i64 t160), (96, .int .i64 t161), (99, .int .i64 t162), (18, .pointer (some ⟨s_, 0, none⟩)), (93, .int .i64 (wrap64 (1999 + t160))), (100, .agg #[.int .i64 (wrap64 (1999 + t160)), .int .i64 t161, .int .i64 t162])]) (fun s_ w' => (w'.cell? ⟨gb146, 0, none⟩ = some (.int .i64 a2_0) ∧ w'.cell? ⟨gb146, 1, none⟩ = some (.int .i64 a2_1) ∧ w'.cell? ⟨gb146, 2, none⟩ = some (.int .i64 a2_2)) ∧ (w'.heap[gb146]? = some (.cells #[.int .i64 a2_0, .int .i64 a2_1, .int .i64 a2_2] 22 (0, 0))) ∧ (w'.heap[s_]? = some (.cells #[.int .i64 0, .int .i64 0, .int .i64 0] 22 (0, 0))) ∧ (w.heap.size ≤ s_) ∧ (w.heap.size ≤ s_) ∧ (gb146 ≠ s_) ∧ (s_ ≠ gb146) ∧ (Below w.heap.size w w')) ?_ ?_
      rotate_left
      ·intro hCont
       refine two_ (i := 2) (j := 11) (Ni := some 92) (Nj := some 18) #[true, true, true, false, true, true, false, true, true, false, false, false, false] #[true, true, false, false, true, true, false, true, true, false, false, true, false] rfl rfl rfl rfl (two_of HT_.out (by kernel_rfl)) (by decide) (by decide) (fun K hK => ?_) (fun K hK => ?_)
       ·skip
        refine goes_ Tryd.func10 (by kernel_rfl) rfl #[.int .i64 a2_0, .int .i64 102] (by rfl) rfl rfl (by (try simp only [List.map_toArray, List.map_cons, List.map_nil]); first | done | rfl | (simp only [List.length_drop, List.length_take]; rfl)) ?_
        with_reducible refine (wageofficelaw02_pick.calls a2_0 102 t160 _ A30.out).mono ?_
        rintro e w' ⟨rfl, ⟨nd, rfl⟩⟩
        refine ⟨_, rfl, ?_⟩
        refine hK.out _ _ ⟨(blk_cell BK146.out 0).trans rfl, (blk_cell BK146.out 1).trans rfl, (blk_cell BK146.out 2).trans rfl⟩ (fun hHeld => ?_)
        clear hK K
        refine norm_ (a' := ?_) ?_ ?_
        rotate_left
        ·show Act.put _ (some 92) _ = _
         simp only [Act.put, setIfInBounds_toArray, set_cons_zero, set_cons_succ, i64_w, i32_w]
         rfl
        refine pure_ (i := 3) (N := some 93) (v := ?_) (a' := ?_) #[true, true, true, true, true, true, false, true, true, false, false, false, false] rfl rfl (any_of HT_.out (by kernel_rfl)) (fun _ _ _ h => h) (Or.inl ⟨by rfl, ?_⟩) ?_ ?_
        rotate_left
        ·intro w'
         go_simp
         with_reducible rfl
        rotate_left
        ·simp only [Act.put, setIfInBounds_toArray, set_cons_zero, set_cons_succ, i64_w, i32_w]
         rfl
        refine two_ (i := 6) (j := 11) (Ni := some 96) (Nj := some 18) #[true, true, true, true, true, true, true, true, true, false, false, false, false] #[true, true, true, true, true, true, false, true, true, false, false, true, false] rfl rfl rfl rfl (two_of HT_.out (by kernel_rfl)) (by decide) (by decide) (fun K hK => ?_) (fun K hK => ?_)
        ·skip
         refine goes_ Tryd.func10 (by kernel_rfl) rfl #[.int .i64 a2_1, .int .i64 14] (by rfl) rfl rfl (by (try simp only [List.map_toArray, List.map_cons, List.map_nil]); first | done | rfl | (simp only [List.length_drop, List.length_take]; rfl)) ?_
         with_reducible refine (wageofficelaw02_pick.calls a2_1 14 t161 _ A31.out).mono ?_
         rintro e w' ⟨rfl, ⟨nd, rfl⟩⟩
         refine ⟨_, rfl, ?_⟩
         refine hK.out _ _ ⟨(blk_cell BK146.out 0).trans rfl, (blk_cell BK146.out 1).trans rfl, (blk_cell BK146.out 2).trans rfl⟩ (fun hHeld => ?_)
         clear hK K
         refine norm_ (a' := ?_) ?_ ?_
         rotate_left
         ·show Act.put _ (some 96) _ = _
          simp only [Act.put, setIfInBounds_toArray, set_cons_zero, set_cons_succ, i64_w, i32_w]
          rfl
         refine two_ (i := 9) (j := 11) (Ni := some 99) (Nj := some 18) #[true, true, true, true, true, true, true, true, true, true, false, false, false] #[true, true, true, true, true, true, true, true, true, false, false, true, false] rfl rfl rfl rfl (two_of HT_.out (by kernel_rfl)) (by decide) (by decide) (fun K hK => ?_) (fun K hK => ?_)
         ·skip
          refine goes_ Tryd.func10 (by kernel_rfl) rfl #[.int .i64 a2_2, .int .i64 33] (by rfl) rfl rfl (by (try simp only [List.map_toArray, List.map_cons, List.map_nil]); first | done | rfl | (simp only [List.length_drop, List.length_take]; rfl)) ?_
          with_reducible refine (wageofficelaw02_pick.calls a2_2 33 t162 _ A32.out).mono ?_
          rintro e w' ⟨rfl, ⟨nd, rfl⟩⟩
          refine ⟨_, rfl, ?_⟩
          refine hK.out _ _ ⟨(blk_cell BK146.out 0).trans rfl, (blk_cell BK146.out 1).trans rfl, (blk_cell BK146.out 2).trans rfl⟩ (fun hHeld => ?_)
          clear hK K
          refine norm_ (a' := ?_) ?_ ?_
          rotate_left
          ·show Act.put _ (some 99) _ = _
           simp only [Act.put, setIfInBounds_toArray, set_cons_zero, set_cons_succ, i64_w, i32_w]
           rfl
          refine pure_ (i := 10) (N := some 100) (v := ?_) (a' := ?_) #[true, true, true, true, true, true, true, true, true, true, true, false, false] rfl rfl (any_of HT_.out (by kernel_rfl)) (fun _ _ _ h => h) (Or.inl ⟨by rfl, ?_⟩) ?_ ?_
          rotate_left
          ·intro w'
           go_simp
           with_reducible rfl
          rotate_left
          ·simp only [Act.put, setIfInBounds_toArray, set_cons_zero, set_cons_succ, i64_w, i32_w]
           rfl
          refine one_ (i := 11) (N := some 18) #[true, true, true, true, true, true, true, true, true, true, true, true, false] rfl rfl (one_of HT_.out (by kernel_rfl)) (by decide) (fun K hK => ?_)
          refine box_step ?hg (N := 18) ?hd (cs := #[.int .i64 0, .int .i64 0, .int .i64 0]) (t := 22) ?hr ?_; (case hd => rfl); (case hg => rfl); (case hr => first | (go_simp; done) | (go_simp; rfl))
          intro gb163 hg w85 hbox hb
          have n0_ := Aside0.mk (blk_below (g := gb146) (o := .cells #[.int .i64 a2_0, .int .i64 a2_1, .int .i64 a2_2] 22 (0, 0)) (by (with_reducible repeat (first | refine blk_drewN ?_ _ | refine blk_drew ?_ | refine blk_alloc ?_ _)); exact BK146.out) hb)
          have n1_ := Aside0.mk (below_step (by repeat (first | (with_reducible first | exact HB.out | apply below_alloc | apply pw_below_drewN | apply below_drew1 | refine below_set ?_ GE146.out) | exact HB.out)) hb)
          have n2_ := Aside0.mk (hbox)
          have n3_ := Aside0.mk ((by rw [hg]; exact (below_size (by repeat (first | (with_reducible first | exact HB.out | apply below_alloc | apply pw_below_drewN | apply below_drew1 | refine below_set ?_ GE146.out) | exact HB.out))) : w.heap.size ≤ gb163))
          have n4_ := Aside0.mk ((by rw [hg]; exact (below_size (by repeat (first | (with_reducible first | exact HB.out | apply below_alloc | apply pw_below_drewN | apply below_drew1 | refine below_set ?_ GE146.out) | exact HB.out))) : w.heap.size ≤ gb163))
          have n5_ := Aside0.mk ((by rw [hg]; exact Nat.ne_of_lt (blk_lt (g := gb146) (o := .cells #[.int .i64 a2_0, .int .i64 a2_1, .int .i64 a2_2] 22 (0, 0)) (by (with_reducible repeat (first | refine blk_drewN ?_ _ | refine blk_drew ?_ | refine blk_alloc ?_ _)); exact BK146.out)) : gb146 ≠ gb163))
          have n6_ := Aside0.mk ((by rw [hg]; exact Nat.ne_of_gt (blk_lt (g := gb146) (o := .cells #[.int .i64 a2_0, .int .i64 a2_1, .int .i64 a2_2] 22 (0, 0)) (by (with_reducible repeat (first | refine blk_drewN ?_ _ | refine blk_drew ?_ | refine blk_alloc ?_ _)); exact BK146.out)) : gb163 ≠ gb146))
          clear BK146
          clear HB
          have BK146 := n0_
          have HB := n1_
          have BK163 := n2_
          have GW163 := n3_
          have GE163 := n4_
          have NB146_163 := n5_
          have NB163_146 := n6_
          clear n0_ n1_ n2_ n3_ n4_ n5_ n6_
          clear hb hbox hg
          refine hK.out _ _ ⟨(blk_cell BK146.out 0).trans rfl, (blk_cell BK146.out 1).trans rfl, (blk_cell BK146.out 2).trans rfl⟩ (fun hHeld => ?_)
          clear hK K
          refine norm_ (a' := ?_) ?_ ?_
          rotate_left
          ·show Act.put _ (some 18) _ = _
           simp only [Act.put, setIfInBounds_toArray, set_cons_zero, set_cons_succ, i64_w, i32_w]
           rfl
          exact norm_ (by simp only [putAll, Act.put, setIfInBounds_toArray, set_cons_zero, set_cons_succ]) (hCont (gb163) _ ⟨hHeld, (by (with_reducible repeat (first | refine blk_drewN ?_ _ | refine blk_drew ?_ | refine blk_alloc ?_ _)); exact BK146.out), (by (with_reducible repeat (first | refine blk_drewN ?_ _ | refine blk_drew ?_ | refine blk_alloc ?_ _)); exact BK163.out), GW163.out, GE163.out, NB146_163.out, NB163_146.out, (by repeat (first | (with_reducible first | exact HB.out | apply below_alloc | apply pw_below_drewN | apply below_drew1 | refine below_set ?_ GE146.out | refine below_set ?_ GE163.out) | exact HB.out))⟩)
         ·skip
          refine box_step ?hg (N := 18) ?hd (cs := #[.int .i64 0, .int .i64 0, .int .i64 0]) (t := 22) ?hr ?_; (case hd => rfl); (case hg => rfl); (case hr => first | (go_simp; done) | (go_simp; rfl))
          intro gb163 hg w85 hbox hb
          have n0_ := Aside0.mk (blk_below (g := gb146) (o := .cells #[.int .i64 a2_0, .int .i64 a2_1, .int .i64 a2_2] 22 (0, 0)) (by (with_reducible repeat (first | refine blk_drewN ?_ _ | refine blk_drew ?_ | refine blk_alloc ?_ _)); exact BK146.out) hb)
          have n1_ := Aside0.mk (below_step (by repeat (first | (with_reducible first | exact HB.out | apply below_alloc | apply pw_below_drewN | apply below_drew1 | refine below_set ?_ GE146.out) | exact HB.out)) hb)
          have n2_ := Aside0.mk (hbox)
          have n3_ := Aside0.mk ((by rw [hg]; exact (below_size (by repeat (first | (with_reducible first | exact HB.out | apply below_alloc | apply pw_below_drewN | apply below_drew1 | refine below_set ?_ GE146.out) | exact HB.out))) : w.heap.size ≤ gb163))
          have n4_ := Aside0.mk ((by rw [hg]; exact (below_size (by repeat (first | (with_reducible first | exact HB.out | apply below_alloc | apply pw_below_drewN | apply below_drew1 | refine below_set ?_ GE146.out) | exact HB.out))) : w.heap.size ≤ gb163))
          have n5_ := Aside0.mk ((by rw [hg]; exact Nat.ne_of_lt (blk_lt (g := gb146) (o := .cells #[.int .i64 a2_0, .int .i64 a2_1, .int .i64 a2_2] 22 (0, 0)) (by (with_reducible repeat (first | refine blk_drewN ?_ _ | refine blk_drew ?_ | refine blk_alloc ?_ _)); exact BK146.out)) : gb146 ≠ gb163))
          have n6_ := Aside0.mk ((by rw [hg]; exact Nat.ne_of_gt (blk_lt (g := gb146) (o := .cells #[.int .i64 a2_0, .int .i64 a2_1, .int .i64 a2_2] 22 (0, 0)) (by (with_reducible repeat (first | refine blk_drewN ?_ _ | refine blk_drew ?_ | refine blk_alloc ?_ _)); exact BK146.out)) : gb163 ≠ gb146))
          clear BK146
          clear HB
          have BK146 := n0_
          have HB := n1_
          have BK163 := n2_
          have GW163 := n3_
          have GE163 := n4_
          have NB146_163 := n5_
          have NB163_146 := n6_
          clear n0_ n1_ n2_ n3_ n4_ n5_ n6_
          clear hb hbox hg
          refine hK.out _ _ ⟨(blk_cell BK146.out 0).trans rfl, (blk_cell BK146.out 1).trans rfl, (blk_cell BK146.out 2).trans rfl⟩ (fun hHeld => ?_)
          clear hK K
          refine norm_ (a' := ?_) ?_ ?_
          rotate_left
          ·show Act.put _ (some 18) _ = _
           simp only [Act.put, setIfInBounds_toArray, set_cons_zero, set_cons_succ, i64_w, i32_w]
           rfl
          refine one_ (i := 9) (N := some 99) #[true, true, true, true, true, true, true, true, true, true, false, true, false] rfl rfl (one_of HT_.out (by kernel_rfl)) (by decide) (fun K hK => ?_)
          refine goes_ Tryd.func10 (by kernel_rfl) rfl #[.int .i64 a2_2, .int .i64 33] (by rfl) rfl rfl (by (try simp only [List.map_toArray, List.map_cons, List.map_nil]); first | done | rfl | (simp only [List.length_drop, List.length_take]; rfl)) ?_
          with_reducible refine (wageofficelaw02_pick.calls a2_2 33 t162 _ A32.out).mono ?_
          rintro e w' ⟨rfl, ⟨nd, rfl⟩⟩
          refine ⟨_, rfl, ?_⟩
          refine hK.out _ _ ⟨(blk_cell BK146.out 0).trans rfl, (blk_cell BK146.out 1).trans rfl, (blk_cell BK146.out 2).trans rfl⟩ (fun hHeld => ?_)
          clear hK K
          refine norm_ (a' := ?_) ?_ ?_
          rotate_left
          ·show Act.put _ (some 99) _ = _
           simp only [Act.put, setIfInBounds_toArray, set_cons_zero, set_cons_succ, i64_w, i32_w]
           rfl
          refine pure_ (i := 10) (N := some 100) (v := ?_) (a' := ?_) #[true, true, true, true, true, true, true, true, true, true, true, true, false] rfl rfl (any_of HT_.out (by kernel_rfl)) (fun _ _ _ h => h) (Or.inl ⟨by rfl, ?_⟩) ?_ ?_
          rotate_left
          ·intro w'
           go_simp
           with_reducible rfl
          rotate_left
          ·simp only [Act.put, setIfInBounds_toArray, set_cons_zero, set_cons_succ, i64_w, i32_w]
           rfl
          exact norm_ (by simp only [putAll, Act.put, setIfInBounds_toArray, set_cons_zero, set_cons_succ]) (hCont (gb163) _ ⟨hHeld, (by (with_reducible repeat (first | refine blk_drewN ?_ _ | refine blk_drew ?_ | refine blk_alloc ?_ _)); exact BK146.out), (by (with_reducible repeat (first | refine blk_drewN ?_ _ | refine blk_drew ?_ | refine blk_alloc ?_ _)); exact BK163.out), GW163.out, GE163.out, NB146_163.out, NB163_146.out, (by repeat (first | (with_reducible first | exact HB.out | apply below_alloc | apply pw_below_drewN | apply below_drew1 | refine below_set ?_ GE146.out | refine below_set ?_ GE163.out) | exact HB.out))⟩)
        ·skip
         refine box_step ?hg (N := 18) ?hd (cs := #[.int .i64 0, .int .i64 0, .int .i64 0]) (t := 22) ?hr ?_; (case hd => rfl); (case hg => rfl); (case hr => first | (go_simp; done) | (go_simp; rfl))
         intro gb163 hg w85 hbox hb
         have n0_ := Aside0.mk (blk_below (g := gb146) (o := .cells #[.int .i64 a2_0, .int .i64 a2_1, .int .i64 a2_2] 22 (0, 0)) (by (with_reducible repeat (first | refine blk_drewN ?_ _ | refine blk_drew ?_ | refine blk_alloc ?_ _)); exact BK146.out) hb)
         have n1_ := Aside0.mk (below_step (by repeat (first | (with_reducible first | exact HB.out | apply below_alloc | apply pw_below_drewN | apply below_drew1 | refine below_set ?_ GE146.out) | exact HB.out)) hb)
         have n2_ := Aside0.mk (hbox)
         have n3_ := Aside0.mk ((by rw [hg]; exact (below_size (by repeat (first | (with_reducible first | exact HB.out | apply below_alloc | apply pw_below_drewN | apply below_drew1 | refine below_set ?_ GE146.out) | exact HB.out))) : w.heap.size ≤ gb163))
         have n4_ := Aside0.mk ((by rw [hg]; exact (below_size (by repeat (first | (with_reducible first | exact HB.out | apply below_alloc | apply pw_below_drewN | apply below_drew1 | refine below_set ?_ GE146.out) | exact HB.out))) : w.heap.size ≤ gb163))
         have n5_ := Aside0.mk ((by rw [hg]; exact Nat.ne_of_lt (blk_lt (g := gb146) (o := .cells #[.int .i64 a2_0, .int .i64 a2_1, .int .i64 a2_2] 22 (0, 0)) (by (with_reducible repeat (first | refine blk_drewN ?_ _ | refine blk_drew ?_ | refine blk_alloc ?_ _)); exact BK146.out)) : gb146 ≠ gb163))
         have n6_ := Aside0.mk ((by rw [hg]; exact Nat.ne_of_gt (blk_lt (g := gb146) (o := .cells #[.int .i64 a2_0, .int .i64 a2_1, .int .i64 a2_2] 22 (0, 0)) (by (with_reducible repeat (first | refine blk_drewN ?_ _ | refine blk_drew ?_ | refine blk_alloc ?_ _)); exact BK146.out)) : gb163 ≠ gb146))
         clear BK146
         clear HB
         have BK146 := n0_
         have HB := n1_
         have BK163 := n2_
         have GW163 := n3_
         have GE163 := n4_
         have NB146_163 := n5_
         have NB163_146 := n6_
         clear n0_ n1_ n2_ n3_ n4_ n5_ n6_
         clear hb hbox hg
         refine hK.out _ _ ⟨(blk_cell BK146.out 0).trans rfl, (blk_cell BK146.out 1).trans rfl, (blk_cell BK146.out 2).trans rfl⟩ (fun hHeld => ?_)
         clear hK K
         refine norm_ (a' := ?_) ?_ ?_
         rotate_left
         ·show Act.put _ (some 18) _ = _
          simp only [Act.put, setIfInBounds_toArray, set_cons_zero, set_cons_succ, i64_w, i32_w]
          rfl
         refine one_ (i := 6) (N := some 96) #[true, true, true, true, true, true, true, true, true, false, false, true, false] rfl rfl (one_of HT_.out (by kernel_rfl)) (by decide) (fun K hK => ?_)
         refine goes_ Tryd.func10 (by kernel_rfl) rfl #[.int .i64 a2_1, .int .i64 14] (by rfl) rfl rfl (by (try simp only [List.map_toArray, List.map_cons, List.map_nil]); first | done | rfl | (simp only [List.length_drop, List.length_take]; rfl)) ?_
         with_reducible refine (wageofficelaw02_pick.calls a2_1 14 t161 _ A31.out).mono ?_
         rintro e w' ⟨rfl, ⟨nd, rfl⟩⟩
         refine ⟨_, rfl, ?_⟩
         refine hK.out _ _ ⟨(blk_cell BK146.out 0).trans rfl, (blk_cell BK146.out 1).trans rfl, (blk_cell BK146.out 2).trans rfl⟩ (fun hHeld => ?_)
         clear hK K
         refine norm_ (a' := ?_) ?_ ?_
         rotate_left
         ·show Act.put _ (some 96) _ = _
          simp only [Act.put, setIfInBounds_toArray, set_cons_zero, set_cons_succ, i64_w, i32_w]
          rfl
         refine one_ (i := 9) (N := some 99) #[true, true, true, true, true, true, true, true, true, true, false, true, false] rfl rfl (one_of HT_.out (by kernel_rfl)) (by decide) (fun K hK => ?_)
         refine goes_ Tryd.func10 (by kernel_rfl) rfl #[.int .i64 a2_2, .int .i64 33] (by rfl) rfl rfl (by (try simp only [List.map_toArray, List.map_cons, List.map_nil]); first | done | rfl | (simp only [List.length_drop, List.length_take]; rfl)) ?_
         with_reducible refine (wageofficelaw02_pick.calls a2_2 33 t162 _ A32.out).mono ?_
         rintro e w' ⟨rfl, ⟨nd, rfl⟩⟩
         refine ⟨_, rfl, ?_⟩
         refine hK.out _ _ ⟨(blk_cell BK146.out 0).trans rfl, (blk_cell BK146.out 1).trans rfl, (blk_cell BK146.out 2).trans rfl⟩ (fun hHeld => ?_)
         clear hK K
         refine norm_ (a' := ?_) ?_ ?_
         rotate_left
         ·show Act.put _ (some 99) _ = _
          simp only [Act.put, setIfInBounds_toArray, set_cons_zero, set_cons_succ, i64_w, i32_w]
          rfl
         refine pure_ (i := 10) (N := some 100) (v := ?_) (a' := ?_) #[true, true, true, true, true, true, true, true, true, true, true, true, false] rfl rfl (any_of HT_.out (by kernel_rfl)) (fun _ _ _ h => h) (Or.inl ⟨by rfl, ?_⟩) ?_ ?_
         rotate_left
         ·intro w'
          go_simp
          with_reducible rfl
         rotate_left
         ·simp only [Act.put, setIfInBounds_toArray, set_cons_zero, set_cons_succ, i64_w, i32_w]
          rfl
         exact norm_ (by simp only [putAll, Act.put, setIfInBounds_toArray, set_cons_zero, set_cons_succ]) (hCont (gb163) _ ⟨hHeld, (by (with_reducible repeat (first | refine blk_drewN ?_ _ | refine blk_drew ?_ | refine blk_alloc ?_ _)); exact BK146.out), (by (with_reducible repeat (first | refine blk_drewN ?_ _ | refine blk_drew ?_ | refine blk_alloc ?_ _)); exact BK163.out), GW163.out, GE163.out, NB146_163.out, NB163_146.out, (by repeat (first | (with_reducible first | exact HB.out | apply below_alloc | apply pw_below_drewN | apply below_drew1 | refine below_set ?_ GE146.out | refine below_set ?_ GE163.out) | exact HB.out))⟩)
       ·skip
        refine box_step ?hg (N := 18) ?hd (cs := #[.int .i64 0, .int .i64 0, .int .i64 0]) (t := 22) ?hr ?_; (case hd => rfl); (case hg => rfl); (case hr => first | (go_simp; done) | (go_simp; rfl))
        intro gb163 hg w85 hbox hb
        have n0_ := Aside0.mk (blk_below (g := gb146) (o := .cells #[.int .i64 a2_0, .int .i64 a2_1, .int .i64 a2_2] 22 (0, 0)) (by (with_reducible repeat (first | refine blk_drewN ?_ _ | refine blk_drew ?_ | refine blk_alloc ?_ _)); exact BK146.out) hb)
        have n1_ := Aside0.mk (below_step (by repeat (first | (with_reducible first | exact HB.out | apply below_alloc | apply pw_below_drewN | apply below_drew1 | refine below_set ?_ GE146.out) | exact HB.out)) hb)
        have n2_ := Aside0.mk (hbox)
        have n3_ := Aside0.mk ((by rw [hg]; exact (below_size (by repeat (first | (with_reducible first | exact HB.out | apply below_alloc | apply pw_below_drewN | apply below_drew1 | refine below_set ?_ GE146.out) | exact HB.out))) : w.heap.size ≤ gb163))
        have n4_ := Aside0.mk ((by rw [hg]; exact (below_size (by repeat (first | (with_reducible first | exact HB.out | apply below_alloc | apply pw_below_drewN | apply below_drew1 | refine below_set ?_ GE146.out) | exact HB.out))) : w.heap.size ≤ gb163))
        have n5_ := Aside0.mk ((by rw [hg]; exact Nat.ne_of_lt (blk_lt (g := gb146) (o := .cells #[.int .i64 a2_0, .int .i64 a2_1, .int .i64 a2_2] 22 (0, 0)) (by (with_reducible repeat (first | refine blk_drewN ?_ _ | refine blk_drew ?_ | refine blk_alloc ?_ _)); exact BK146.out)) : gb146 ≠ gb163))
        have n6_ := Aside0.mk ((by rw [hg]; exact Nat.ne_of_gt (blk_lt (g := gb146) (o := .cells #[.int .i64 a2_0, .int .i64 a2_1, .int .i64 a2_2] 22 (0, 0)) (by (with_reducible repeat (first | refine blk_drewN ?_ _ | refine blk_drew ?_ | refine blk_alloc ?_ _)); exact BK146.out)) : gb163 ≠ gb146))
        clear BK146
        clear HB
        have BK146 := n0_
        have HB := n1_
        have BK163 := n2_
        have GW163 := n3_
        have GE163 := n4_
        have NB146_163 := n5_
        have NB163_146 := n6_
        clear n0_ n1_ n2_ n3_ n4_ n5_ n6_
        clear hb hbox hg
        refine hK.out _ _ ⟨(blk_cell BK146.out 0).trans rfl, (blk_cell BK146.out 1).trans rfl, (blk_cell BK146.out 2).trans rfl⟩ (fun hHeld => ?_)
        clear hK K
        refine norm_ (a' := ?_) ?_ ?_
        rotate_left
        ·show Act.put _ (some 18) _ = _
         simp only [Act.put, setIfInBounds_toArray, set_cons_zero, set_cons_succ, i64_w, i32_w]
         rfl
        refine one_ (i := 2) (N := some 92) #[true, true, true, false, true, true, false, true, true, false, false, true, false] rfl rfl (one_of HT_.out (by kernel_rfl)) (by decide) (fun K hK => ?_)
        refine goes_ Tryd.func10 (by kernel_rfl) rfl #[.int .i64 a2_0, .int .i64 102] (by rfl) rfl rfl (by (try simp only [List.map_toArray, List.map_cons, List.map_nil]); first | done | rfl | (simp only [List.length_drop, List.length_take]; rfl)) ?_
        with_reducible refine (wageofficelaw02_pick.calls a2_0 102 t160 _ A30.out).mono ?_
        rintro e w' ⟨rfl, ⟨nd, rfl⟩⟩
        refine ⟨_, rfl, ?_⟩
        refine hK.out _ _ ⟨(blk_cell BK146.out 0).trans rfl, (blk_cell BK146.out 1).trans rfl, (blk_cell BK146.out 2).trans rfl⟩ (fun hHeld => ?_)
        clear hK K
        refine norm_ (a' := ?_) ?_ ?_
        rotate_left
        ·show Act.put _ (some 92) _ = _
         simp only [Act.put, setIfInBounds_toArray, set_cons_zero, set_cons_succ, i64_w, i32_w]
         rfl
        refine pure_ (i := 3) (N := some 93) (v := ?_) (a' := ?_) #[true, true, true, true, true, true, false, true, true, false, false, true, false] rfl rfl (any_of HT_.out (by kernel_rfl)) (fun _ _ _ h => h) (Or.inl ⟨by rfl, ?_⟩) ?_ ?_
        rotate_left
        ·intro w'
         go_simp
         with_reducible rfl
        rotate_left
        ·simp only [Act.put, setIfInBounds_toArray, set_cons_zero, set_cons_succ, i64_w, i32_w]
         rfl
        refine one_ (i := 6) (N := some 96) #[true, true, true, true, true, true, true, true, true, false, false, true, false] rfl rfl (one_of HT_.out (by kernel_rfl)) (by decide) (fun K hK => ?_)
        refine goes_ Tryd.func10 (by kernel_rfl) rfl #[.int .i64 a2_1, .int .i64 14] (by rfl) rfl rfl (by (try simp only [List.map_toArray, List.map_cons, List.map_nil]); first | done | rfl | (simp only [List.length_drop, List.length_take]; rfl)) ?_
        with_reducible refine (wageofficelaw02_pick.calls a2_1 14 t161 _ A31.out).mono ?_
        rintro e w' ⟨rfl, ⟨nd, rfl⟩⟩
        refine ⟨_, rfl, ?_⟩
        refine hK.out _ _ ⟨(blk_cell BK146.out 0).trans rfl, (blk_cell BK146.out 1).trans rfl, (blk_cell BK146.out 2).trans rfl⟩ (fun hHeld => ?_)
        clear hK K
        refine norm_ (a' := ?_) ?_ ?_
        rotate_left
        ·show Act.put _ (some 96) _ = _
         simp only [Act.put, setIfInBounds_toArray, set_cons_zero, set_cons_succ, i64_w, i32_w]
         rfl
        refine one_ (i := 9) (N := some 99) #[true, true, true, true, true, true, true, true, true, true, false, true, false] rfl rfl (one_of HT_.out (by kernel_rfl)) (by decide) (fun K hK => ?_)
        refine goes_ Tryd.func10 (by kernel_rfl) rfl #[.int .i64 a2_2, .int .i64 33] (by rfl) rfl rfl (by (try simp only [List.map_toArray, List.map_cons, List.map_nil]); first | done | rfl | (simp only [List.length_drop, List.length_take]; rfl)) ?_
        with_reducible refine (wageofficelaw02_pick.calls a2_2 33 t162 _ A32.out).mono ?_
        rintro e w' ⟨rfl, ⟨nd, rfl⟩⟩
        refine ⟨_, rfl, ?_⟩
        refine hK.out _ _ ⟨(blk_cell BK146.out 0).trans rfl, (blk_cell BK146.out 1).trans rfl, (blk_cell BK146.out 2).trans rfl⟩ (fun hHeld => ?_)
        clear hK K
        refine norm_ (a' := ?_) ?_ ?_
        rotate_left
        ·show Act.put _ (some 99) _ = _
         simp only [Act.put, setIfInBounds_toArray, set_cons_zero, set_cons_succ, i64_w, i32_w]
         rfl
        refine pure_ (i := 10) (N := some 100) (v := ?_) (a' := ?_) #[true, true, true, true, true, true, true, true, true, true, true, true, false] rfl rfl (any_of HT_.out (by kernel_rfl)) (fun _ _ _ h => h) (Or.inl ⟨by rfl, ?_⟩) ?_ ?_
        rotate_left
        ·intro w'
         go_simp
         with_reducible rfl
        rotate_left
        ·simp only [Act.put, setIfInBounds_toArray, set_cons_zero, set_cons_succ, i64_w, i32_w]
         rfl
        exact norm_ (by simp only [putAll, Act.put, setIfInBounds_toArray, set_cons_zero, set_cons_succ]) (hCont (gb163) _ ⟨hHeld, (by (with_reducible repeat (first | refine blk_drewN ?_ _ | refine blk_drew ?_ | refine blk_alloc ?_ _)); exact BK146.out), (by (with_reducible repeat (first | refine blk_drewN ?_ _ | refine blk_drew ?_ | refine blk_alloc ?_ _)); exact BK163.out), GW163.out, GE163.out, NB146_163.out, NB163_146.out, (by repeat (first | (with_reducible first | exact HB.out | apply below_alloc | apply pw_below_drewN | apply below_drew1 | refine below_set ?_ GE146.out | refine below_set ?_ GE163.out) | exact HB.out))⟩)
      rintro gb163 w86 ⟨hS_, h0_, h1_, h2_, h3_, h4_, h5_, h6_⟩
      have n0_ : Aside0 (w86.heap[gb146]? = some (.cells #[.int .i64 a2_0, .int .i64 a2_1, .int .i64 a2_2] 22 (0, 0))) := ⟨h0_⟩
      have n1_ : Aside0 (w86.heap[gb163]? = some (.cells #[.int .i64 0, .int .i64 0, .int .i64 0] 22 (0, 0))) := ⟨h1_⟩
      have n2_ : Aside0 (w.heap.size ≤ gb163) := ⟨h2_⟩
      have n3_ : Aside0 (w.heap.size ≤ gb163) := ⟨h3_⟩
      have n4_ : Aside0 (gb146 ≠ gb163) := ⟨h4_⟩
      have n5_ : Aside0 (gb163 ≠ gb146) := ⟨h5_⟩
      have n6_ : Aside0 (Below w.heap.size w w86) := ⟨h6_⟩
      clear BK146
      clear HB
      clear h0_ h1_ h2_ h3_ h4_ h5_ h6_
      have BK146 := n0_
      have BK163 := n1_
      have GW163 := n2_
      have GE163 := n3_
      have NB146_163 := n4_
      have NB163_146 := n5_
      have HB := n6_
      clear n0_ n1_ n2_ n3_ n4_ n5_ n6_
      have hHeld : w86.cell? ⟨gb146, 0, none⟩ = some (.int .i64 a2_0) ∧ w86.cell? ⟨gb146, 1, none⟩ = some (.int .i64 a2_1) ∧ w86.cell? ⟨gb146, 2, none⟩ = some (.int .i64 a2_2) := hS_
      refine norm_ (a' := ?_) ?_ ?_
      rotate_left
      ·simp only [putAll, Act.put, setIfInBounds_toArray, set_cons_zero, set_cons_succ]
       rfl
      refine one_ (i := 12) (N := none) #[true, true, true, true, true, true, true, true, true, true, true, true, true] rfl rfl (one_of HT_.out (by kernel_rfl)) (by decide) (fun K hK => ?_)
      have hs87 : w86.cell? ⟨gb163, 0, none⟩ = some (.int .i64 0) := (blk_cell BK163.out 0).trans rfl
      have hfs87 := blk_frozen BK163.out 0
      have hns87_0 := NB146_163.out
      have hms87_0 := NB163_146.out
      have hs88 : w86.cell? ⟨gb163, 1, none⟩ = some (.int .i64 0) := (blk_cell BK163.out 1).trans rfl
      have hfs88 := blk_frozen BK163.out 1
      have hns88_0 := NB146_163.out
      have hms88_0 := NB163_146.out
      have hs89 : w86.cell? ⟨gb163, 2, none⟩ = some (.int .i64 0) := (blk_cell BK163.out 2).trans rfl
      have hfs89 := blk_frozen BK163.out 2
      have hns89_0 := NB146_163.out
      have hms89_0 := NB163_146.out
      refine skip_ (w1 := ?_) (by rfl) rfl ?_ ?_
      rotate_left
      ·go_simp
       rfl
      refine hK.out _ _ ⟨((cell_far (p := ⟨gb163, _, none⟩) NB146_163.out _).trans (((cell_far (p := ⟨gb163, _, none⟩) NB146_163.out _).trans (((cell_far (p := ⟨gb163, _, none⟩) NB146_163.out _).trans (hHeld.1)))))), ((cell_far (p := ⟨gb163, _, none⟩) NB146_163.out _).trans (((cell_far (p := ⟨gb163, _, none⟩) NB146_163.out _).trans (((cell_far (p := ⟨gb163, _, none⟩) NB146_163.out _).trans (hHeld.2.1)))))), ((cell_far (p := ⟨gb163, _, none⟩) NB146_163.out _).trans (((cell_far (p := ⟨gb163, _, none⟩) NB146_163.out _).trans (((cell_far (p := ⟨gb163, _, none⟩) NB146_163.out _).trans (hHeld.2.2))))))⟩ (fun hHeld => ?_)
      clear hK K
      refine done_ (done_of HT_.out (by kernel_rfl)) ?_
      have hnb90 := NB163_146.out
      have hnc90 := NB146_163.out
      have hcz91_0 : w86.cell? ⟨gb163, 0, none⟩ = some (.int .i64 0) := (blk_cell BK163.out 0).trans rfl
      have hcz91_1 : w86.cell? ⟨gb163, 1, none⟩ = some (.int .i64 0) := (blk_cell BK163.out 1).trans rfl
      have hcz91_2 : w86.cell? ⟨gb163, 2, none⟩ = some (.int .i64 0) := (blk_cell BK163.out 2).trans rfl
      have hfz91_0 := blk_frozen BK163.out 0
      have hfz91_1 := blk_frozen BK163.out 1
      have hfz91_2 := blk_frozen BK163.out 2
      try go_wp2_with (first | ((with_reducible refine gate_callee (f := 25) rfl ?_); refine goesL_ (some 108) rfl rfl Tryd.func25 (by kernel_rfl) rfl #[.int .i64 (wrap64 (1999 + t160)), .int .i64 t161, .int .i64 t162] rfl (by (try simp only [List.map_toArray, List.map_cons, List.map_nil]); first | done | rfl | (simp only [List.length_drop, List.length_take]; rfl)) ?_; (with_reducible refine (calendar_Day.calls (wrap64 (1999 + t160)) t161 t162 t164 t165 _ A33.out (TabBefore.below hTBefore.out (by repeat (first | exact HB.out | apply below_alloc | apply pw_below_drewN | apply below_drew1 | refine below_set ?_ GE146.out | refine below_set ?_ GE163.out)))).mono ?_); rintro e w92 ⟨rfl, hb⟩; refine ⟨_, rfl, ?_⟩; have n0_ := Aside0.mk (blk_below (g := gb146) (o := .cells #[.int .i64 a2_0, .int .i64 a2_1, .int .i64 a2_2] 22 (0, 0)) (by (with_reducible repeat (first | refine blk_drewN ?_ _ | refine blk_drew ?_ | refine blk_alloc ?_ _)); refine blk_far ?_ NB146_163.out _; (with_reducible repeat (first | refine blk_drewN ?_ _ | refine blk_drew ?_ | refine blk_alloc ?_ _)); refine blk_far ?_ NB146_163.out _; (with_reducible repeat (first | refine blk_drewN ?_ _ | refine blk_drew ?_ | refine blk_alloc ?_ _)); refine blk_far ?_ NB146_163.out _; (with_reducible repeat (first | refine blk_drewN ?_ _ | refine blk_drew ?_ | refine blk_alloc ?_ _)); exact BK146.out) hb); have n1_ := Aside0.mk (blk_below (g := gb163) (o := .cells #[.int .i64 (wrap64 (1999 + t160)), .int .i64 t161, .int .i64 t162] 22 (0, 0)) (by (with_reducible repeat (first | refine blk_drewN ?_ _ | refine blk_drew ?_ | refine blk_alloc ?_ _)); refine blk_put (cs := #[.int .i64 (wrap64 (1999 + t160)), .int .i64 t161, .int .i64 0]) ?_ 2 _ rfl; (with_reducible repeat (first | refine blk_drewN ?_ _ | refine blk_drew ?_ | refine blk_alloc ?_ _)); refine blk_put (cs := #[.int .i64 (wrap64 (1999 + t160)), .int .i64 0, .int .i64 0]) ?_ 1 _ rfl; (with_reducible repeat (first | refine blk_drewN ?_ _ | refine blk_drew ?_ | refine blk_alloc ?_ _)); refine blk_put (cs := #[.int .i64 0, .int .i64 0, .int .i64 0]) ?_ 0 _ rfl; (with_reducible repeat (first | refine blk_drewN ?_ _ | refine blk_drew ?_ | refine blk_alloc ?_ _)); exact BK163.out) hb); have n2_ := Aside0.mk (below_step (by repeat (first | (with_reducible first | exact HB.out | apply below_alloc | apply pw_below_drewN | apply below_drew1 | refine below_set ?_ GE146.out | refine below_set ?_ GE163.out) | exact HB.out)) hb); clear BK146; clear BK163; clear HB; have BK146 := n0_; have BK163 := n1_; have HB := n2_; clear n0_ n1_ n2_; (try clear hb); (try clear hb2); (try clear hk); (try clear hi)))
      go_ret
      exact ⟨by first | rfl | (simp [errW_none, errW_some] <;> rfl) | (simp [*, errW_none, errW_some] <;> rfl), by repeat (first | (with_reducible first | exact HB.out | apply below_alloc | apply pw_below_drewN | apply below_drew1 | refine below_set ?_ GE146.out | refine below_set ?_ GE163.out) | exact HB.out)⟩
     ·rw [if_neg c83] at H
      have c83b0 : (t165 == 21) = false := beq_eq_false_iff_ne.mpr c83
      have c83b1 : (t165 != 21) = true := bne_iff_ne.mpr c83
      obtain rfl := Option.some.inj H
      try go_wp2
      have n0_ := Aside0.mk (blk_drew BK146.out)
      have n1_ := Aside0.mk (below_drew1 HB.out)
      clear BK146
      clear HB
      have BK146 := n0_
      have HB := n1_
      clear n0_ n1_
      refine start_ (n := 13) (S := fun w' => w'.cell? ⟨gb146, 0, none⟩ = some (.int .i64 a2_0) ∧ w'.cell? ⟨gb146, 1, none⟩ = some (.int .i64 a2_1) ∧ w'.cell? ⟨gb146, 2, none⟩ = some (.int .i64 a2_2)) (ds := []) #[false, false, false, false, false, false, false, false, false, false, false, false, false] (by kernel_rfl) rfl rfl ⟨(blk_cell BK146.out 0).trans rfl, (blk_cell BK146.out 1).trans rfl, (blk_cell BK146.out 2).trans rfl⟩ (fun hHeld => ?_); refine with_tabW CI.tab9 CI.bits9 (fun HT_ HW_ => ?_)
      generalize wc.drew = w93 at BK146 HB hHeld ⊢
      refine pure_ (i := 0) (N := some 90) (v := ?_) (a' := ?_) #[true, false, false, false, false, false, false, false, false, false, false, false, false] rfl rfl (any_of HT_.out (by kernel_rfl)) (fun _ _ _ h => h) (Or.inl ⟨by rfl, ?_⟩) ?_ ?_
      rotate_left
      ·intro w'
       go_simp
       with_reducible rfl
      rotate_left
      ·simp only [Act.put, setIfInBounds_toArray, set_cons_zero, set_cons_succ, i64_w, i32_w]
       rfl
      refine pure_ (i := 4) (N := some 94) (v := ?_) (a' := ?_) #[true, false, false, false, true, false, false, false, false, false, false, false, false] rfl rfl (any_of HT_.out (by kernel_rfl)) (fun _ _ _ h => h) (Or.inl ⟨by rfl, ?_⟩) ?_ ?_
      rotate_left
      ·intro w'
       go_simp
       with_reducible rfl
      rotate_left
      ·simp only [Act.put, setIfInBounds_toArray, set_cons_zero, set_cons_succ, i64_w, i32_w]
       rfl
      refine pure_ (i := 7) (N := some 97) (v := ?_) (a' := ?_) #[true, false, false, false, true, false, false, true, false, false, false, false, false] rfl rfl (any_of HT_.out (by kernel_rfl)) (fun _ _ _ h => h) (Or.inl ⟨by rfl, ?_⟩) ?_ ?_
      rotate_left
      ·intro w'
       go_simp
       with_reducible rfl
      rotate_left
      ·simp only [Act.put, setIfInBounds_toArray, set_cons_zero, set_cons_succ, i64_w, i32_w]
       rfl
      refine take_ (i := 1) (N := some 91) (v := ?_) (a' := ?_) #[true, true, false, false, true, false, false, true, false, false, false, false, false] rfl rfl (take_ofW HT_.out HW_.out (by kernel_rfl)) (fun _ _ _ h => h) (Or.inl ⟨by rfl, ?_⟩) hHeld ?_ ?_
      rotate_left
      ·rintro w' ⟨s0, s1, s2⟩
       go_simp
       with_reducible rfl
      rotate_left
      ·simp only [Act.put, setIfInBounds_toArray, set_cons_zero, set_cons_succ, i64_w, i32_w]
       rfl
      refine take_ (i := 5) (N := some 95) (v := ?_) (a' := ?_) #[true, true, false, false, true, true, false, true, false, false, false, false, false] rfl rfl (take_ofW HT_.out HW_.out (by kernel_rfl)) (fun _ _ _ h => h) (Or.inl ⟨by rfl, ?_⟩) hHeld ?_ ?_
      rotate_left
      ·rintro w' ⟨s0, s1, s2⟩
       go_simp
       with_reducible rfl
      rotate_left
      ·simp only [Act.put, setIfInBounds_toArray, set_cons_zero, set_cons_succ, i64_w, i32_w]
       rfl
      refine take_ (i := 8) (N := some 98) (v := ?_) (a' := ?_) #[true, true, false, false, true, true, false, true, true, false, false, false, false] rfl rfl (take_ofW HT_.out HW_.out (by kernel_rfl)) (fun _ _ _ h => h) (Or.inl ⟨by rfl, ?_⟩) hHeld ?_ ?_
      rotate_left
      ·rintro w' ⟨s0, s1, s2⟩
       go_simp
       with_reducible rfl
      rotate_left
      ·simp only [Act.put, setIfInBounds_toArray, set_cons_zero, set_cons_succ, i64_w, i32_w]
       rfl
      refine join_ (σ := Nat) 1 #[true, true, true, true, true, true, true, true, true, true, true, true, false] (fun s_ => [(92, .int .i64 t160), (96, .int .i64 t161), (99, .int .i64 t162), (18, .pointer (some ⟨s_, 0, none⟩)), (93, .int .i64 (wrap64 (1999 + t160))), (100, .agg #[.int .i64 (wrap64 (1999 + t160)), .int .i64 t161, .int .i64 t162])]) (fun s_ w' => (w'.cell? ⟨gb146, 0, none⟩ = some (.int .i64 a2_0) ∧ w'.cell? ⟨gb146, 1, none⟩ = some (.int .i64 a2_1) ∧ w'.cell? ⟨gb146, 2, none⟩ = some (.int .i64 a2_2)) ∧ (w'.heap[gb146]? = some (.cells #[.int .i64 a2_0, .int .i64 a2_1, .int .i64 a2_2] 22 (0, 0))) ∧ (w'.heap[s_]? = some (.cells #[.int .i64 0, .int .i64 0, .int .i64 0] 22 (0, 0))) ∧ (w.heap.size ≤ s_) ∧ (w.heap.size ≤ s_) ∧ (gb146 ≠ s_) ∧ (s_ ≠ gb146) ∧ (Below w.heap.size w w')) ?_ ?_
      rotate_left
      ·intro hCont
       refine two_ (i := 2) (j := 11) (Ni := some 92) (Nj := some 18) #[true, true, true, false, true, true, false, true, true, false, false, false, false] #[true, true, false, false, true, true, false, true, true, false, false, true, false] rfl rfl rfl rfl (two_of HT_.out (by kernel_rfl)) (by decide) (by decide) (fun K hK => ?_) (fun K hK => ?_)
       ·skip
        refine goes_ Tryd.func10 (by kernel_rfl) rfl #[.int .i64 a2_0, .int .i64 102] (by rfl) rfl rfl (by (try simp only [List.map_toArray, List.map_cons, List.map_nil]); first | done | rfl | (simp only [List.length_drop, List.length_take]; rfl)) ?_
        with_reducible refine (wageofficelaw02_pick.calls a2_0 102 t160 _ A30.out).mono ?_
        rintro e w' ⟨rfl, ⟨nd, rfl⟩⟩
        refine ⟨_, rfl, ?_⟩
        refine hK.out _ _ ⟨(blk_cell BK146.out 0).trans rfl, (blk_cell BK146.out 1).trans rfl, (blk_cell BK146.out 2).trans rfl⟩ (fun hHeld => ?_)
        clear hK K
        refine norm_ (a' := ?_) ?_ ?_
        rotate_left
        ·show Act.put _ (some 92) _ = _
         simp only [Act.put, setIfInBounds_toArray, set_cons_zero, set_cons_succ, i64_w, i32_w]
         rfl
        refine pure_ (i := 3) (N := some 93) (v := ?_) (a' := ?_) #[true, true, true, true, true, true, false, true, true, false, false, false, false] rfl rfl (any_of HT_.out (by kernel_rfl)) (fun _ _ _ h => h) (Or.inl ⟨by rfl, ?_⟩) ?_ ?_
        rotate_left
        ·intro w'
         go_simp
         with_reducible rfl
        rotate_left
        ·simp only [Act.put, setIfInBounds_toArray, set_cons_zero, set_cons_succ, i64_w, i32_w]
         rfl
        refine two_ (i := 6) (j := 11) (Ni := some 96) (Nj := some 18) #[true, true, true, true, true, true, true, true, true, false, false, false, false] #[true, true, true, true, true, true, false, true, true, false, false, true, false] rfl rfl rfl rfl (two_of HT_.out (by kernel_rfl)) (by decide) (by decide) (fun K hK => ?_) (fun K hK => ?_)
        ·skip
         refine goes_ Tryd.func10 (by kernel_rfl) rfl #[.int .i64 a2_1, .int .i64 14] (by rfl) rfl rfl (by (try simp only [List.map_toArray, List.map_cons, List.map_nil]); first | done | rfl | (simp only [List.length_drop, List.length_take]; rfl)) ?_
         with_reducible refine (wageofficelaw02_pick.calls a2_1 14 t161 _ A31.out).mono ?_
         rintro e w' ⟨rfl, ⟨nd, rfl⟩⟩
         refine ⟨_, rfl, ?_⟩
         refine hK.out _ _ ⟨(blk_cell BK146.out 0).trans rfl, (blk_cell BK146.out 1).trans rfl, (blk_cell BK146.out 2).trans rfl⟩ (fun hHeld => ?_)
         clear hK K
         refine norm_ (a' := ?_) ?_ ?_
         rotate_left
         ·show Act.put _ (some 96) _ = _
          simp only [Act.put, setIfInBounds_toArray, set_cons_zero, set_cons_succ, i64_w, i32_w]
          rfl
         refine two_ (i := 9) (j := 11) (Ni := some 99) (Nj := some 18) #[true, true, true, true, true, true, true, true, true, true, false, false, false] #[true, true, true, true, true, true, true, true, true, false, false, true, false] rfl rfl rfl rfl (two_of HT_.out (by kernel_rfl)) (by decide) (by decide) (fun K hK => ?_) (fun K hK => ?_)
         ·skip
          refine goes_ Tryd.func10 (by kernel_rfl) rfl #[.int .i64 a2_2, .int .i64 33] (by rfl) rfl rfl (by (try simp only [List.map_toArray, List.map_cons, List.map_nil]); first | done | rfl | (simp only [List.length_drop, List.length_take]; rfl)) ?_
          with_reducible refine (wageofficelaw02_pick.calls a2_2 33 t162 _ A32.out).mono ?_
          rintro e w' ⟨rfl, ⟨nd, rfl⟩⟩
          refine ⟨_, rfl, ?_⟩
          refine hK.out _ _ ⟨(blk_cell BK146.out 0).trans rfl, (blk_cell BK146.out 1).trans rfl, (blk_cell BK146.out 2).trans rfl⟩ (fun hHeld => ?_)
          clear hK K
          refine norm_ (a' := ?_) ?_ ?_
          rotate_left
          ·show Act.put _ (some 99) _ = _
           simp only [Act.put, setIfInBounds_toArray, set_cons_zero, set_cons_succ, i64_w, i32_w]
           rfl
          refine pure_ (i := 10) (N := some 100) (v := ?_) (a' := ?_) #[true, true, true, true, true, true, true, true, true, true, true, false, false] rfl rfl (any_of HT_.out (by kernel_rfl)) (fun _ _ _ h => h) (Or.inl ⟨by rfl, ?_⟩) ?_ ?_
          rotate_left
          ·intro w'
           go_simp
           with_reducible rfl
          rotate_left
          ·simp only [Act.put, setIfInBounds_toArray, set_cons_zero, set_cons_succ, i64_w, i32_w]
           rfl
          refine one_ (i := 11) (N := some 18) #[true, true, true, true, true, true, true, true, true, true, true, true, false] rfl rfl (one_of HT_.out (by kernel_rfl)) (by decide) (fun K hK => ?_)
          refine box_step ?hg (N := 18) ?hd (cs := #[.int .i64 0, .int .i64 0, .int .i64 0]) (t := 22) ?hr ?_; (case hd => rfl); (case hg => rfl); (case hr => first | (go_simp; done) | (go_simp; rfl))
          intro gb163 hg w94 hbox hb
          have n0_ := Aside0.mk (blk_below (g := gb146) (o := .cells #[.int .i64 a2_0, .int .i64 a2_1, .int .i64 a2_2] 22 (0, 0)) (by (with_reducible repeat (first | refine blk_drewN ?_ _ | refine blk_drew ?_ | refine blk_alloc ?_ _)); exact BK146.out) hb)
          have n1_ := Aside0.mk (below_step (by repeat (first | (with_reducible first | exact HB.out | apply below_alloc | apply pw_below_drewN | apply below_drew1 | refine below_set ?_ GE146.out) | exact HB.out)) hb)
          have n2_ := Aside0.mk (hbox)
          have n3_ := Aside0.mk ((by rw [hg]; exact (below_size (by repeat (first | (with_reducible first | exact HB.out | apply below_alloc | apply pw_below_drewN | apply below_drew1 | refine below_set ?_ GE146.out) | exact HB.out))) : w.heap.size ≤ gb163))
          have n4_ := Aside0.mk ((by rw [hg]; exact (below_size (by repeat (first | (with_reducible first | exact HB.out | apply below_alloc | apply pw_below_drewN | apply below_drew1 | refine below_set ?_ GE146.out) | exact HB.out))) : w.heap.size ≤ gb163))
          have n5_ := Aside0.mk ((by rw [hg]; exact Nat.ne_of_lt (blk_lt (g := gb146) (o := .cells #[.int .i64 a2_0, .int .i64 a2_1, .int .i64 a2_2] 22 (0, 0)) (by (with_reducible repeat (first | refine blk_drewN ?_ _ | refine blk_drew ?_ | refine blk_alloc ?_ _)); exact BK146.out)) : gb146 ≠ gb163))
          have n6_ := Aside0.mk ((by rw [hg]; exact Nat.ne_of_gt (blk_lt (g := gb146) (o := .cells #[.int .i64 a2_0, .int .i64 a2_1, .int .i64 a2_2] 22 (0, 0)) (by (with_reducible repeat (first | refine blk_drewN ?_ _ | refine blk_drew ?_ | refine blk_alloc ?_ _)); exact BK146.out)) : gb163 ≠ gb146))
          clear BK146
          clear HB
          have BK146 := n0_
          have HB := n1_
          have BK163 := n2_
          have GW163 := n3_
          have GE163 := n4_
          have NB146_163 := n5_
          have NB163_146 := n6_
          clear n0_ n1_ n2_ n3_ n4_ n5_ n6_
          clear hb hbox hg
          refine hK.out _ _ ⟨(blk_cell BK146.out 0).trans rfl, (blk_cell BK146.out 1).trans rfl, (blk_cell BK146.out 2).trans rfl⟩ (fun hHeld => ?_)
          clear hK K
          refine norm_ (a' := ?_) ?_ ?_
          rotate_left
          ·show Act.put _ (some 18) _ = _
           simp only [Act.put, setIfInBounds_toArray, set_cons_zero, set_cons_succ, i64_w, i32_w]
           rfl
          exact norm_ (by simp only [putAll, Act.put, setIfInBounds_toArray, set_cons_zero, set_cons_succ]) (hCont (gb163) _ ⟨hHeld, (by (with_reducible repeat (first | refine blk_drewN ?_ _ | refine blk_drew ?_ | refine blk_alloc ?_ _)); exact BK146.out), (by (with_reducible repeat (first | refine blk_drewN ?_ _ | refine blk_drew ?_ | refine blk_alloc ?_ _)); exact BK163.out), GW163.out, GE163.out, NB146_163.out, NB163_146.out, (by repeat (first | (with_reducible first | exact HB.out | apply below_alloc | apply pw_below_drewN | apply below_drew1 | refine below_set ?_ GE146.out | refine below_set ?_ GE163.out) | exact HB.out))⟩)
         ·skip
          refine box_step ?hg (N := 18) ?hd (cs := #[.int .i64 0, .int .i64 0, .int .i64 0]) (t := 22) ?hr ?_; (case hd => rfl); (case hg => rfl); (case hr => first | (go_simp; done) | (go_simp; rfl))
          intro gb163 hg w94 hbox hb
          have n0_ := Aside0.mk (blk_below (g := gb146) (o := .cells #[.int .i64 a2_0, .int .i64 a2_1, .int .i64 a2_2] 22 (0, 0)) (by (with_reducible repeat (first | refine blk_drewN ?_ _ | refine blk_drew ?_ | refine blk_alloc ?_ _)); exact BK146.out) hb)
          have n1_ := Aside0.mk (below_step (by repeat (first | (with_reducible first | exact HB.out | apply below_alloc | apply pw_below_drewN | apply below_drew1 | refine below_set ?_ GE146.out) | exact HB.out)) hb)
          have n2_ := Aside0.mk (hbox)
          have n3_ := Aside0.mk ((by rw [hg]; exact (below_size (by repeat (first | (with_reducible first | exact HB.out | apply below_alloc | apply pw_below_drewN | apply below_drew1 | refine below_set ?_ GE146.out) | exact HB.out))) : w.heap.size ≤ gb163))
          have n4_ := Aside0.mk ((by rw [hg]; exact (below_size (by repeat (first | (with_reducible first | exact HB.out | apply below_alloc | apply pw_below_drewN | apply below_drew1 | refine below_set ?_ GE146.out) | exact HB.out))) : w.heap.size ≤ gb163))
          have n5_ := Aside0.mk ((by rw [hg]; exact Nat.ne_of_lt (blk_lt (g := gb146) (o := .cells #[.int .i64 a2_0, .int .i64 a2_1, .int .i64 a2_2] 22 (0, 0)) (by (with_reducible repeat (first | refine blk_drewN ?_ _ | refine blk_drew ?_ | refine blk_alloc ?_ _)); exact BK146.out)) : gb146 ≠ gb163))
          have n6_ := Aside0.mk ((by rw [hg]; exact Nat.ne_of_gt (blk_lt (g := gb146) (o := .cells #[.int .i64 a2_0, .int .i64 a2_1, .int .i64 a2_2] 22 (0, 0)) (by (with_reducible repeat (first | refine blk_drewN ?_ _ | refine blk_drew ?_ | refine blk_alloc ?_ _)); exact BK146.out)) : gb163 ≠ gb146))
          clear BK146
          clear HB
          have BK146 := n0_
          have HB := n1_
          have BK163 := n2_
          have GW163 := n3_
          have GE163 := n4_
          have NB146_163 := n5_
          have NB163_146 := n6_
          clear n0_ n1_ n2_ n3_ n4_ n5_ n6_
          clear hb hbox hg
          refine hK.out _ _ ⟨(blk_cell BK146.out 0).trans rfl, (blk_cell BK146.out 1).trans rfl, (blk_cell BK146.out 2).trans rfl⟩ (fun hHeld => ?_)
          clear hK K
          refine norm_ (a' := ?_) ?_ ?_
          rotate_left
          ·show Act.put _ (some 18) _ = _
           simp only [Act.put, setIfInBounds_toArray, set_cons_zero, set_cons_succ, i64_w, i32_w]
           rfl
          refine one_ (i := 9) (N := some 99) #[true, true, true, true, true, true, true, true, true, true, false, true, false] rfl rfl (one_of HT_.out (by kernel_rfl)) (by decide) (fun K hK => ?_)
          refine goes_ Tryd.func10 (by kernel_rfl) rfl #[.int .i64 a2_2, .int .i64 33] (by rfl) rfl rfl (by (try simp only [List.map_toArray, List.map_cons, List.map_nil]); first | done | rfl | (simp only [List.length_drop, List.length_take]; rfl)) ?_
          with_reducible refine (wageofficelaw02_pick.calls a2_2 33 t162 _ A32.out).mono ?_
          rintro e w' ⟨rfl, ⟨nd, rfl⟩⟩
          refine ⟨_, rfl, ?_⟩
          refine hK.out _ _ ⟨(blk_cell BK146.out 0).trans rfl, (blk_cell BK146.out 1).trans rfl, (blk_cell BK146.out 2).trans rfl⟩ (fun hHeld => ?_)
          clear hK K
          refine norm_ (a' := ?_) ?_ ?_
          rotate_left
          ·show Act.put _ (some 99) _ = _
           simp only [Act.put, setIfInBounds_toArray, set_cons_zero, set_cons_succ, i64_w, i32_w]
           rfl
          refine pure_ (i := 10) (N := some 100) (v := ?_) (a' := ?_) #[true, true, true, true, true, true, true, true, true, true, true, true, false] rfl rfl (any_of HT_.out (by kernel_rfl)) (fun _ _ _ h => h) (Or.inl ⟨by rfl, ?_⟩) ?_ ?_
          rotate_left
          ·intro w'
           go_simp
           with_reducible rfl
          rotate_left
          ·simp only [Act.put, setIfInBounds_toArray, set_cons_zero, set_cons_succ, i64_w, i32_w]
           rfl
          exact norm_ (by simp only [putAll, Act.put, setIfInBounds_toArray, set_cons_zero, set_cons_succ]) (hCont (gb163) _ ⟨hHeld, (by (with_reducible repeat (first | refine blk_drewN ?_ _ | refine blk_drew ?_ | refine blk_alloc ?_ _)); exact BK146.out), (by (with_reducible repeat (first | refine blk_drewN ?_ _ | refine blk_drew ?_ | refine blk_alloc ?_ _)); exact BK163.out), GW163.out, GE163.out, NB146_163.out, NB163_146.out, (by repeat (first | (with_reducible first | exact HB.out | apply below_alloc | apply pw_below_drewN | apply below_drew1 | refine below_set ?_ GE146.out | refine below_set ?_ GE163.out) | exact HB.out))⟩)
        ·skip
         refine box_step ?hg (N := 18) ?hd (cs := #[.int .i64 0, .int .i64 0, .int .i64 0]) (t := 22) ?hr ?_; (case hd => rfl); (case hg => rfl); (case hr => first | (go_simp; done) | (go_simp; rfl))
         intro gb163 hg w94 hbox hb
         have n0_ := Aside0.mk (blk_below (g := gb146) (o := .cells #[.int .i64 a2_0, .int .i64 a2_1, .int .i64 a2_2] 22 (0, 0)) (by (with_reducible repeat (first | refine blk_drewN ?_ _ | refine blk_drew ?_ | refine blk_alloc ?_ _)); exact BK146.out) hb)
         have n1_ := Aside0.mk (below_step (by repeat (first | (with_reducible first | exact HB.out | apply below_alloc | apply pw_below_drewN | apply below_drew1 | refine below_set ?_ GE146.out) | exact HB.out)) hb)
         have n2_ := Aside0.mk (hbox)
         have n3_ := Aside0.mk ((by rw [hg]; exact (below_size (by repeat (first | (with_reducible first | exact HB.out | apply below_alloc | apply pw_below_drewN | apply below_drew1 | refine below_set ?_ GE146.out) | exact HB.out))) : w.heap.size ≤ gb163))
         have n4_ := Aside0.mk ((by rw [hg]; exact (below_size (by repeat (first | (with_reducible first | exact HB.out | apply below_alloc | apply pw_below_drewN | apply below_drew1 | refine below_set ?_ GE146.out) | exact HB.out))) : w.heap.size ≤ gb163))
         have n5_ := Aside0.mk ((by rw [hg]; exact Nat.ne_of_lt (blk_lt (g := gb146) (o := .cells #[.int .i64 a2_0, .int .i64 a2_1, .int .i64 a2_2] 22 (0, 0)) (by (with_reducible repeat (first | refine blk_drewN ?_ _ | refine blk_drew ?_ | refine blk_alloc ?_ _)); exact BK146.out)) : gb146 ≠ gb163))
         have n6_ := Aside0.mk ((by rw [hg]; exact Nat.ne_of_gt (blk_lt (g := gb146) (o := .cells #[.int .i64 a2_0, .int .i64 a2_1, .int .i64 a2_2] 22 (0, 0)) (by (with_reducible repeat (first | refine blk_drewN ?_ _ | refine blk_drew ?_ | refine blk_alloc ?_ _)); exact BK146.out)) : gb163 ≠ gb146))
         clear BK146
         clear HB
         have BK146 := n0_
         have HB := n1_
         have BK163 := n2_
         have GW163 := n3_
         have GE163 := n4_
         have NB146_163 := n5_
         have NB163_146 := n6_
         clear n0_ n1_ n2_ n3_ n4_ n5_ n6_
         clear hb hbox hg
         refine hK.out _ _ ⟨(blk_cell BK146.out 0).trans rfl, (blk_cell BK146.out 1).trans rfl, (blk_cell BK146.out 2).trans rfl⟩ (fun hHeld => ?_)
         clear hK K
         refine norm_ (a' := ?_) ?_ ?_
         rotate_left
         ·show Act.put _ (some 18) _ = _
          simp only [Act.put, setIfInBounds_toArray, set_cons_zero, set_cons_succ, i64_w, i32_w]
          rfl
         refine one_ (i := 6) (N := some 96) #[true, true, true, true, true, true, true, true, true, false, false, true, false] rfl rfl (one_of HT_.out (by kernel_rfl)) (by decide) (fun K hK => ?_)
         refine goes_ Tryd.func10 (by kernel_rfl) rfl #[.int .i64 a2_1, .int .i64 14] (by rfl) rfl rfl (by (try simp only [List.map_toArray, List.map_cons, List.map_nil]); first | done | rfl | (simp only [List.length_drop, List.length_take]; rfl)) ?_
         with_reducible refine (wageofficelaw02_pick.calls a2_1 14 t161 _ A31.out).mono ?_
         rintro e w' ⟨rfl, ⟨nd, rfl⟩⟩
         refine ⟨_, rfl, ?_⟩
         refine hK.out _ _ ⟨(blk_cell BK146.out 0).trans rfl, (blk_cell BK146.out 1).trans rfl, (blk_cell BK146.out 2).trans rfl⟩ (fun hHeld => ?_)
         clear hK K
         refine norm_ (a' := ?_) ?_ ?_
         rotate_left
         ·show Act.put _ (some 96) _ = _
          simp only [Act.put, setIfInBounds_toArray, set_cons_zero, set_cons_succ, i64_w, i32_w]
          rfl
         refine one_ (i := 9) (N := some 99) #[true, true, true, true, true, true, true, true, true, true, false, true, false] rfl rfl (one_of HT_.out (by kernel_rfl)) (by decide) (fun K hK => ?_)
         refine goes_ Tryd.func10 (by kernel_rfl) rfl #[.int .i64 a2_2, .int .i64 33] (by rfl) rfl rfl (by (try simp only [List.map_toArray, List.map_cons, List.map_nil]); first | done | rfl | (simp only [List.length_drop, List.length_take]; rfl)) ?_
         with_reducible refine (wageofficelaw02_pick.calls a2_2 33 t162 _ A32.out).mono ?_
         rintro e w' ⟨rfl, ⟨nd, rfl⟩⟩
         refine ⟨_, rfl, ?_⟩
         refine hK.out _ _ ⟨(blk_cell BK146.out 0).trans rfl, (blk_cell BK146.out 1).trans rfl, (blk_cell BK146.out 2).trans rfl⟩ (fun hHeld => ?_)
         clear hK K
         refine norm_ (a' := ?_) ?_ ?_
         rotate_left
         ·show Act.put _ (some 99) _ = _
          simp only [Act.put, setIfInBounds_toArray, set_cons_zero, set_cons_succ, i64_w, i32_w]
          rfl
         refine pure_ (i := 10) (N := some 100) (v := ?_) (a' := ?_) #[true, true, true, true, true, true, true, true, true, true, true, true, false] rfl rfl (any_of HT_.out (by kernel_rfl)) (fun _ _ _ h => h) (Or.inl ⟨by rfl, ?_⟩) ?_ ?_
         rotate_left
         ·intro w'
          go_simp
          with_reducible rfl
         rotate_left
         ·simp only [Act.put, setIfInBounds_toArray, set_cons_zero, set_cons_succ, i64_w, i32_w]
          rfl
         exact norm_ (by simp only [putAll, Act.put, setIfInBounds_toArray, set_cons_zero, set_cons_succ]) (hCont (gb163) _ ⟨hHeld, (by (with_reducible repeat (first | refine blk_drewN ?_ _ | refine blk_drew ?_ | refine blk_alloc ?_ _)); exact BK146.out), (by (with_reducible repeat (first | refine blk_drewN ?_ _ | refine blk_drew ?_ | refine blk_alloc ?_ _)); exact BK163.out), GW163.out, GE163.out, NB146_163.out, NB163_146.out, (by repeat (first | (with_reducible first | exact HB.out | apply below_alloc | apply pw_below_drewN | apply below_drew1 | refine below_set ?_ GE146.out | refine below_set ?_ GE163.out) | exact HB.out))⟩)
       ·skip
        refine box_step ?hg (N := 18) ?hd (cs := #[.int .i64 0, .int .i64 0, .int .i64 0]) (t := 22) ?hr ?_; (case hd => rfl); (case hg => rfl); (case hr => first | (go_simp; done) | (go_simp; rfl))
        intro gb163 hg w94 hbox hb
        have n0_ := Aside0.mk (blk_below (g := gb146) (o := .cells #[.int .i64 a2_0, .int .i64 a2_1, .int .i64 a2_2] 22 (0, 0)) (by (with_reducible repeat (first | refine blk_drewN ?_ _ | refine blk_drew ?_ | refine blk_alloc ?_ _)); exact BK146.out) hb)
        have n1_ := Aside0.mk (below_step (by repeat (first | (with_reducible first | exact HB.out | apply below_alloc | apply pw_below_drewN | apply below_drew1 | refine below_set ?_ GE146.out) | exact HB.out)) hb)
        have n2_ := Aside0.mk (hbox)
        have n3_ := Aside0.mk ((by rw [hg]; exact (below_size (by repeat (first | (with_reducible first | exact HB.out | apply below_alloc | apply pw_below_drewN | apply below_drew1 | refine below_set ?_ GE146.out) | exact HB.out))) : w.heap.size ≤ gb163))
        have n4_ := Aside0.mk ((by rw [hg]; exact (below_size (by repeat (first | (with_reducible first | exact HB.out | apply below_alloc | apply pw_below_drewN | apply below_drew1 | refine below_set ?_ GE146.out) | exact HB.out))) : w.heap.size ≤ gb163))
        have n5_ := Aside0.mk ((by rw [hg]; exact Nat.ne_of_lt (blk_lt (g := gb146) (o := .cells #[.int .i64 a2_0, .int .i64 a2_1, .int .i64 a2_2] 22 (0, 0)) (by (with_reducible repeat (first | refine blk_drewN ?_ _ | refine blk_drew ?_ | refine blk_alloc ?_ _)); exact BK146.out)) : gb146 ≠ gb163))
        have n6_ := Aside0.mk ((by rw [hg]; exact Nat.ne_of_gt (blk_lt (g := gb146) (o := .cells #[.int .i64 a2_0, .int .i64 a2_1, .int .i64 a2_2] 22 (0, 0)) (by (with_reducible repeat (first | refine blk_drewN ?_ _ | refine blk_drew ?_ | refine blk_alloc ?_ _)); exact BK146.out)) : gb163 ≠ gb146))
        clear BK146
        clear HB
        have BK146 := n0_
        have HB := n1_
        have BK163 := n2_
        have GW163 := n3_
        have GE163 := n4_
        have NB146_163 := n5_
        have NB163_146 := n6_
        clear n0_ n1_ n2_ n3_ n4_ n5_ n6_
        clear hb hbox hg
        refine hK.out _ _ ⟨(blk_cell BK146.out 0).trans rfl, (blk_cell BK146.out 1).trans rfl, (blk_cell BK146.out 2).trans rfl⟩ (fun hHeld => ?_)
        clear hK K
        refine norm_ (a' := ?_) ?_ ?_
        rotate_left
        ·show Act.put _ (some 18) _ = _
         simp only [Act.put, setIfInBounds_toArray, set_cons_zero, set_cons_succ, i64_w, i32_w]
         rfl
        refine one_ (i := 2) (N := some 92) #[true, true, true, false, true, true, false, true, true, false, false, true, false] rfl rfl (one_of HT_.out (by kernel_rfl)) (by decide) (fun K hK => ?_)
        refine goes_ Tryd.func10 (by kernel_rfl) rfl #[.int .i64 a2_0, .int .i64 102] (by rfl) rfl rfl (by (try simp only [List.map_toArray, List.map_cons, List.map_nil]); first | done | rfl | (simp only [List.length_drop, List.length_take]; rfl)) ?_
        with_reducible refine (wageofficelaw02_pick.calls a2_0 102 t160 _ A30.out).mono ?_
        rintro e w' ⟨rfl, ⟨nd, rfl⟩⟩
        refine ⟨_, rfl, ?_⟩
        refine hK.out _ _ ⟨(blk_cell BK146.out 0).trans rfl, (blk_cell BK146.out 1).trans rfl, (blk_cell BK146.out 2).trans rfl⟩ (fun hHeld => ?_)
        clear hK K
        refine norm_ (a' := ?_) ?_ ?_
        rotate_left
        ·show Act.put _ (some 92) _ = _
         simp only [Act.put, setIfInBounds_toArray, set_cons_zero, set_cons_succ, i64_w, i32_w]
         rfl
        refine pure_ (i := 3) (N := some 93) (v := ?_) (a' := ?_) #[true, true, true, true, true, true, false, true, true, false, false, true, false] rfl rfl (any_of HT_.out (by kernel_rfl)) (fun _ _ _ h => h) (Or.inl ⟨by rfl, ?_⟩) ?_ ?_
        rotate_left
        ·intro w'
         go_simp
         with_reducible rfl
        rotate_left
        ·simp only [Act.put, setIfInBounds_toArray, set_cons_zero, set_cons_succ, i64_w, i32_w]
         rfl
        refine one_ (i := 6) (N := some 96) #[true, true, true, true, true, true, true, true, true, false, false, true, false] rfl rfl (one_of HT_.out (by kernel_rfl)) (by decide) (fun K hK => ?_)
        refine goes_ Tryd.func10 (by kernel_rfl) rfl #[.int .i64 a2_1, .int .i64 14] (by rfl) rfl rfl (by (try simp only [List.map_toArray, List.map_cons, List.map_nil]); first | done | rfl | (simp only [List.length_drop, List.length_take]; rfl)) ?_
        with_reducible refine (wageofficelaw02_pick.calls a2_1 14 t161 _ A31.out).mono ?_
        rintro e w' ⟨rfl, ⟨nd, rfl⟩⟩
        refine ⟨_, rfl, ?_⟩
        refine hK.out _ _ ⟨(blk_cell BK146.out 0).trans rfl, (blk_cell BK146.out 1).trans rfl, (blk_cell BK146.out 2).trans rfl⟩ (fun hHeld => ?_)
        clear hK K
        refine norm_ (a' := ?_) ?_ ?_
        rotate_left
        ·show Act.put _ (some 96) _ = _
         simp only [Act.put, setIfInBounds_toArray, set_cons_zero, set_cons_succ, i64_w, i32_w]
         rfl
        refine one_ (i := 9) (N := some 99) #[true, true, true, true, true, true, true, true, true, true, false, true, false] rfl rfl (one_of HT_.out (by kernel_rfl)) (by decide) (fun K hK => ?_)
        refine goes_ Tryd.func10 (by kernel_rfl) rfl #[.int .i64 a2_2, .int .i64 33] (by rfl) rfl rfl (by (try simp only [List.map_toArray, List.map_cons, List.map_nil]); first | done | rfl | (simp only [List.length_drop, List.length_take]; rfl)) ?_
        with_reducible refine (wageofficelaw02_pick.calls a2_2 33 t162 _ A32.out).mono ?_
        rintro e w' ⟨rfl, ⟨nd, rfl⟩⟩
        refine ⟨_, rfl, ?_⟩
        refine hK.out _ _ ⟨(blk_cell BK146.out 0).trans rfl, (blk_cell BK146.out 1).trans rfl, (blk_cell BK146.out 2).trans rfl⟩ (fun hHeld => ?_)
        clear hK K
        refine norm_ (a' := ?_) ?_ ?_
        rotate_left
        ·show Act.put _ (some 99) _ = _
         simp only [Act.put, setIfInBounds_toArray, set_cons_zero, set_cons_succ, i64_w, i32_w]
         rfl
        refine pure_ (i := 10) (N := some 100) (v := ?_) (a' := ?_) #[true, true, true, true, true, true, true, true, true, true, true, true, false] rfl rfl (any_of HT_.out (by kernel_rfl)) (fun _ _ _ h => h) (Or.inl ⟨by rfl, ?_⟩) ?_ ?_
        rotate_left
        ·intro w'
         go_simp
         with_reducible rfl
        rotate_left
        ·simp only [Act.put, setIfInBounds_toArray, set_cons_zero, set_cons_succ, i64_w, i32_w]
         rfl
        exact norm_ (by simp only [putAll, Act.put, setIfInBounds_toArray, set_cons_zero, set_cons_succ]) (hCont (gb163) _ ⟨hHeld, (by (with_reducible repeat (first | refine blk_drewN ?_ _ | refine blk_drew ?_ | refine blk_alloc ?_ _)); exact BK146.out), (by (with_reducible repeat (first | refine blk_drewN ?_ _ | refine blk_drew ?_ | refine blk_alloc ?_ _)); exact BK163.out), GW163.out, GE163.out, NB146_163.out, NB163_146.out, (by repeat (first | (with_reducible first | exact HB.out | apply below_alloc | apply pw_below_drewN | apply below_drew1 | refine below_set ?_ GE146.out | refine below_set ?_ GE163.out) | exact HB.out))⟩)
      rintro gb163 w95 ⟨hS_, h0_, h1_, h2_, h3_, h4_, h5_, h6_⟩
      have n0_ : Aside0 (w95.heap[gb146]? = some (.cells #[.int .i64 a2_0, .int .i64 a2_1, .int .i64 a2_2] 22 (0, 0))) := ⟨h0_⟩
      have n1_ : Aside0 (w95.heap[gb163]? = some (.cells #[.int .i64 0, .int .i64 0, .int .i64 0] 22 (0, 0))) := ⟨h1_⟩
      have n2_ : Aside0 (w.heap.size ≤ gb163) := ⟨h2_⟩
      have n3_ : Aside0 (w.heap.size ≤ gb163) := ⟨h3_⟩
      have n4_ : Aside0 (gb146 ≠ gb163) := ⟨h4_⟩
      have n5_ : Aside0 (gb163 ≠ gb146) := ⟨h5_⟩
      have n6_ : Aside0 (Below w.heap.size w w95) := ⟨h6_⟩
      clear BK146
      clear HB
      clear h0_ h1_ h2_ h3_ h4_ h5_ h6_
      have BK146 := n0_
      have BK163 := n1_
      have GW163 := n2_
      have GE163 := n3_
      have NB146_163 := n4_
      have NB163_146 := n5_
      have HB := n6_
      clear n0_ n1_ n2_ n3_ n4_ n5_ n6_
      have hHeld : w95.cell? ⟨gb146, 0, none⟩ = some (.int .i64 a2_0) ∧ w95.cell? ⟨gb146, 1, none⟩ = some (.int .i64 a2_1) ∧ w95.cell? ⟨gb146, 2, none⟩ = some (.int .i64 a2_2) := hS_
      refine norm_ (a' := ?_) ?_ ?_
      rotate_left
      ·simp only [putAll, Act.put, setIfInBounds_toArray, set_cons_zero, set_cons_succ]
       rfl
      refine one_ (i := 12) (N := none) #[true, true, true, true, true, true, true, true, true, true, true, true, true] rfl rfl (one_of HT_.out (by kernel_rfl)) (by decide) (fun K hK => ?_)
      have hs96 : w95.cell? ⟨gb163, 0, none⟩ = some (.int .i64 0) := (blk_cell BK163.out 0).trans rfl
      have hfs96 := blk_frozen BK163.out 0
      have hns96_0 := NB146_163.out
      have hms96_0 := NB163_146.out
      have hs97 : w95.cell? ⟨gb163, 1, none⟩ = some (.int .i64 0) := (blk_cell BK163.out 1).trans rfl
      have hfs97 := blk_frozen BK163.out 1
      have hns97_0 := NB146_163.out
      have hms97_0 := NB163_146.out
      have hs98 : w95.cell? ⟨gb163, 2, none⟩ = some (.int .i64 0) := (blk_cell BK163.out 2).trans rfl
      have hfs98 := blk_frozen BK163.out 2
      have hns98_0 := NB146_163.out
      have hms98_0 := NB163_146.out
      refine skip_ (w1 := ?_) (by rfl) rfl ?_ ?_
      rotate_left
      ·go_simp
       rfl
      refine hK.out _ _ ⟨((cell_far (p := ⟨gb163, _, none⟩) NB146_163.out _).trans (((cell_far (p := ⟨gb163, _, none⟩) NB146_163.out _).trans (((cell_far (p := ⟨gb163, _, none⟩) NB146_163.out _).trans (hHeld.1)))))), ((cell_far (p := ⟨gb163, _, none⟩) NB146_163.out _).trans (((cell_far (p := ⟨gb163, _, none⟩) NB146_163.out _).trans (((cell_far (p := ⟨gb163, _, none⟩) NB146_163.out _).trans (hHeld.2.1)))))), ((cell_far (p := ⟨gb163, _, none⟩) NB146_163.out _).trans (((cell_far (p := ⟨gb163, _, none⟩) NB146_163.out _).trans (((cell_far (p := ⟨gb163, _, none⟩) NB146_163.out _).trans (hHeld.2.2))))))⟩ (fun hHeld => ?_)
      clear hK K
      refine done_ (done_of HT_.out (by kernel_rfl)) ?_
      have hnb99 := NB163_146.out
      have hnc99 := NB146_163.out
      have hcz100_0 : w95.cell? ⟨gb163, 0, none⟩ = some (.int .i64 0) := (blk_cell BK163.out 0).trans rfl
      have hcz100_1 : w95.cell? ⟨gb163, 1, none⟩ = some (.int .i64 0) := (blk_cell BK163.out 1).trans rfl
      have hcz100_2 : w95.cell? ⟨gb163, 2, none⟩ = some (.int .i64 0) := (blk_cell BK163.out 2).trans rfl
      have hfz100_0 := blk_frozen BK163.out 0
      have hfz100_1 := blk_frozen BK163.out 1
      have hfz100_2 := blk_frozen BK163.out 2
      try go_wp2_with (first | ((with_reducible refine gate_callee (f := 25) rfl ?_); refine goesL_ (some 108) rfl rfl Tryd.func25 (by kernel_rfl) rfl #[.int .i64 (wrap64 (1999 + t160)), .int .i64 t161, .int .i64 t162] rfl (by (try simp only [List.map_toArray, List.map_cons, List.map_nil]); first | done | rfl | (simp only [List.length_drop, List.length_take]; rfl)) ?_; (with_reducible refine (calendar_Day.calls (wrap64 (1999 + t160)) t161 t162 t164 t165 _ A33.out (TabBefore.below hTBefore.out (by repeat (first | exact HB.out | apply below_alloc | apply pw_below_drewN | apply below_drew1 | refine below_set ?_ GE146.out | refine below_set ?_ GE163.out)))).mono ?_); rintro e w101 ⟨rfl, hb⟩; refine ⟨_, rfl, ?_⟩; have n0_ := Aside0.mk (blk_below (g := gb146) (o := .cells #[.int .i64 a2_0, .int .i64 a2_1, .int .i64 a2_2] 22 (0, 0)) (by (with_reducible repeat (first | refine blk_drewN ?_ _ | refine blk_drew ?_ | refine blk_alloc ?_ _)); refine blk_far ?_ NB146_163.out _; (with_reducible repeat (first | refine blk_drewN ?_ _ | refine blk_drew ?_ | refine blk_alloc ?_ _)); refine blk_far ?_ NB146_163.out _; (with_reducible repeat (first | refine blk_drewN ?_ _ | refine blk_drew ?_ | refine blk_alloc ?_ _)); refine blk_far ?_ NB146_163.out _; (with_reducible repeat (first | refine blk_drewN ?_ _ | refine blk_drew ?_ | refine blk_alloc ?_ _)); exact BK146.out) hb); have n1_ := Aside0.mk (blk_below (g := gb163) (o := .cells #[.int .i64 (wrap64 (1999 + t160)), .int .i64 t161, .int .i64 t162] 22 (0, 0)) (by (with_reducible repeat (first | refine blk_drewN ?_ _ | refine blk_drew ?_ | refine blk_alloc ?_ _)); refine blk_put (cs := #[.int .i64 (wrap64 (1999 + t160)), .int .i64 t161, .int .i64 0]) ?_ 2 _ rfl; (with_reducible repeat (first | refine blk_drewN ?_ _ | refine blk_drew ?_ | refine blk_alloc ?_ _)); refine blk_put (cs := #[.int .i64 (wrap64 (1999 + t160)), .int .i64 0, .int .i64 0]) ?_ 1 _ rfl; (with_reducible repeat (first | refine blk_drewN ?_ _ | refine blk_drew ?_ | refine blk_alloc ?_ _)); refine blk_put (cs := #[.int .i64 0, .int .i64 0, .int .i64 0]) ?_ 0 _ rfl; (with_reducible repeat (first | refine blk_drewN ?_ _ | refine blk_drew ?_ | refine blk_alloc ?_ _)); exact BK163.out) hb); have n2_ := Aside0.mk (below_step (by repeat (first | (with_reducible first | exact HB.out | apply below_alloc | apply pw_below_drewN | apply below_drew1 | refine below_set ?_ GE146.out | refine below_set ?_ GE163.out) | exact HB.out)) hb); clear BK146; clear BK163; clear HB; have BK146 := n0_; have BK163 := n1_; have HB := n2_; clear n0_ n1_ n2_; (try clear hb); (try clear hb2); (try clear hk); (try clear hi)))
      go_ret
      exact ⟨by first | rfl | (simp [errW_none, errW_some] <;> rfl) | (simp [*, errW_none, errW_some] <;> rfl), by repeat (first | (with_reducible first | exact HB.out | apply below_alloc | apply pw_below_drewN | apply below_drew1 | refine below_set ?_ GE146.out | refine below_set ?_ GE163.out) | exact HB.out)⟩
    ·replace c82 := Bool.eq_false_iff.mpr c82
     subst c82
     have H1 : (some false) = some r := by rw [if_neg (show ¬ (false = true) by decide)] at H; exact H
     clear H
     have H := H1
     clear H1
     obtain rfl := Option.some.inj H
     try go_wp2
     have n0_ := Aside0.mk (blk_drew BK146.out)
     have n1_ := Aside0.mk (below_drew1 HB.out)
     clear BK146
     clear HB
     have BK146 := n0_
     have HB := n1_
     clear n0_ n1_
     refine start_ (n := 13) (S := fun w' => w'.cell? ⟨gb146, 0, none⟩ = some (.int .i64 a2_0) ∧ w'.cell? ⟨gb146, 1, none⟩ = some (.int .i64 a2_1) ∧ w'.cell? ⟨gb146, 2, none⟩ = some (.int .i64 a2_2)) (ds := []) #[false, false, false, false, false, false, false, false, false, false, false, false, false] (by kernel_rfl) rfl rfl ⟨(blk_cell BK146.out 0).trans rfl, (blk_cell BK146.out 1).trans rfl, (blk_cell BK146.out 2).trans rfl⟩ (fun hHeld => ?_); refine with_tabW CI.tab9 CI.bits9 (fun HT_ HW_ => ?_)
     generalize wc.drew = w102 at BK146 HB hHeld ⊢
     refine pure_ (i := 0) (N := some 90) (v := ?_) (a' := ?_) #[true, false, false, false, false, false, false, false, false, false, false, false, false] rfl rfl (any_of HT_.out (by kernel_rfl)) (fun _ _ _ h => h) (Or.inl ⟨by rfl, ?_⟩) ?_ ?_
     rotate_left
     ·intro w'
      go_simp
      with_reducible rfl
     rotate_left
     ·simp only [Act.put, setIfInBounds_toArray, set_cons_zero, set_cons_succ, i64_w, i32_w]
      rfl
     refine pure_ (i := 4) (N := some 94) (v := ?_) (a' := ?_) #[true, false, false, false, true, false, false, false, false, false, false, false, false] rfl rfl (any_of HT_.out (by kernel_rfl)) (fun _ _ _ h => h) (Or.inl ⟨by rfl, ?_⟩) ?_ ?_
     rotate_left
     ·intro w'
      go_simp
      with_reducible rfl
     rotate_left
     ·simp only [Act.put, setIfInBounds_toArray, set_cons_zero, set_cons_succ, i64_w, i32_w]
      rfl
     refine pure_ (i := 7) (N := some 97) (v := ?_) (a' := ?_) #[true, false, false, false, true, false, false, true, false, false, false, false, false] rfl rfl (any_of HT_.out (by kernel_rfl)) (fun _ _ _ h => h) (Or.inl ⟨by rfl, ?_⟩) ?_ ?_
     rotate_left
     ·intro w'
      go_simp
      with_reducible rfl
     rotate_left
     ·simp only [Act.put, setIfInBounds_toArray, set_cons_zero, set_cons_succ, i64_w, i32_w]
      rfl
     refine take_ (i := 1) (N := some 91) (v := ?_) (a' := ?_) #[true, true, false, false, true, false, false, true, false, false, false, false, false] rfl rfl (take_ofW HT_.out HW_.out (by kernel_rfl)) (fun _ _ _ h => h) (Or.inl ⟨by rfl, ?_⟩) hHeld ?_ ?_
     rotate_left
     ·rintro w' ⟨s0, s1, s2⟩
      go_simp
      with_reducible rfl
     rotate_left
     ·simp only [Act.put, setIfInBounds_toArray, set_cons_zero, set_cons_succ, i64_w, i32_w]
      rfl
     refine take_ (i := 5) (N := some 95) (v := ?_) (a' := ?_) #[true, true, false, false, true, true, false, true, false, false, false, false, false] rfl rfl (take_ofW HT_.out HW_.out (by kernel_rfl)) (fun _ _ _ h => h) (Or.inl ⟨by rfl, ?_⟩) hHeld ?_ ?_
     rotate_left
     ·rintro w' ⟨s0, s1, s2⟩
      go_simp
      with_reducible rfl
     rotate_left
     ·simp only [Act.put, setIfInBounds_toArray, set_cons_zero, set_cons_succ, i64_w, i32_w]
      rfl
     refine take_ (i := 8) (N := some 98) (v := ?_) (a' := ?_) #[true, true, false, false, true, true, false, true, true, false, false, false, false] rfl rfl (take_ofW HT_.out HW_.out (by kernel_rfl)) (fun _ _ _ h => h) (Or.inl ⟨by rfl, ?_⟩) hHeld ?_ ?_
     rotate_left
     ·rintro w' ⟨s0, s1, s2⟩
      go_simp
      with_reducible rfl
     rotate_left
     ·simp only [Act.put, setIfInBounds_toArray, set_cons_zero, set_cons_succ, i64_w, i32_w]
      rfl
     refine join_ (σ := Nat) 1 #[true, true, true, true, true, true, true, true, true, true, true, true, false] (fun s_ => [(92, .int .i64 t160), (96, .int .i64 t161), (99, .int .i64 t162), (18, .pointer (some ⟨s_, 0, none⟩)), (93, .int .i64 (wrap64 (1999 + t160))), (100, .agg #[.int .i64 (wrap64 (1999 + t160)), .int .i64 t161, .int .i64 t162])]) (fun s_ w' => (w'.cell? ⟨gb146, 0, none⟩ = some (.int .i64 a2_0) ∧ w'.cell? ⟨gb146, 1, none⟩ = some (.int .i64 a2_1) ∧ w'.cell? ⟨gb146, 2, none⟩ = some (.int .i64 a2_2)) ∧ (w'.heap[gb146]? = some (.cells #[.int .i64 a2_0, .int .i64 a2_1, .int .i64 a2_2] 22 (0, 0))) ∧ (w'.heap[s_]? = some (.cells #[.int .i64 0, .int .i64 0, .int .i64 0] 22 (0, 0))) ∧ (w.heap.size ≤ s_) ∧ (w.heap.size ≤ s_) ∧ (gb146 ≠ s_) ∧ (s_ ≠ gb146) ∧ (Below w.heap.size w w')) ?_ ?_
     rotate_left
     ·intro hCont
      refine two_ (i := 2) (j := 11) (Ni := some 92) (Nj := some 18) #[true, true, true, false, true, true, false, true, true, false, false, false, false] #[true, true, false, false, true, true, false, true, true, false, false, true, false] rfl rfl rfl rfl (two_of HT_.out (by kernel_rfl)) (by decide) (by decide) (fun K hK => ?_) (fun K hK => ?_)
      ·skip
       refine goes_ Tryd.func10 (by kernel_rfl) rfl #[.int .i64 a2_0, .int .i64 102] (by rfl) rfl rfl (by (try simp only [List.map_toArray, List.map_cons, List.map_nil]); first | done | rfl | (simp only [List.length_drop, List.length_take]; rfl)) ?_
       with_reducible refine (wageofficelaw02_pick.calls a2_0 102 t160 _ A30.out).mono ?_
       rintro e w' ⟨rfl, ⟨nd, rfl⟩⟩
       refine ⟨_, rfl, ?_⟩
       refine hK.out _ _ ⟨(blk_cell BK146.out 0).trans rfl, (blk_cell BK146.out 1).trans rfl, (blk_cell BK146.out 2).trans rfl⟩ (fun hHeld => ?_)
       clear hK K
       refine norm_ (a' := ?_) ?_ ?_
       rotate_left
       ·show Act.put _ (some 92) _ = _
        simp only [Act.put, setIfInBounds_toArray, set_cons_zero, set_cons_succ, i64_w, i32_w]
        rfl
       refine pure_ (i := 3) (N := some 93) (v := ?_) (a' := ?_) #[true, true, true, true, true, true, false, true, true, false, false, false, false] rfl rfl (any_of HT_.out (by kernel_rfl)) (fun _ _ _ h => h) (Or.inl ⟨by rfl, ?_⟩) ?_ ?_
       rotate_left
       ·intro w'
        go_simp
        with_reducible rfl
       rotate_left
       ·simp only [Act.put, setIfInBounds_toArray, set_cons_zero, set_cons_succ, i64_w, i32_w]
        rfl
       refine two_ (i := 6) (j := 11) (Ni := some 96) (Nj := some 18) #[true, true, true, true, true, true, true, true, true, false, false, false, false] #[true, true, true, true, true, true, false, true, true, false, false, true, false] rfl rfl rfl rfl (two_of HT_.out (by kernel_rfl)) (by decide) (by decide) (fun K hK => ?_) (fun K hK => ?_)
       ·skip
        refine goes_ Tryd.func10 (by kernel_rfl) rfl #[.int .i64 a2_1, .int .i64 14] (by rfl) rfl rfl (by (try simp only [List.map_toArray, List.map_cons, List.map_nil]); first | done | rfl | (simp only [List.length_drop, List.length_take]; rfl)) ?_
        with_reducible refine (wageofficelaw02_pick.calls a2_1 14 t161 _ A31.out).mono ?_
        rintro e w' ⟨rfl, ⟨nd, rfl⟩⟩
        refine ⟨_, rfl, ?_⟩
        refine hK.out _ _ ⟨(blk_cell BK146.out 0).trans rfl, (blk_cell BK146.out 1).trans rfl, (blk_cell BK146.out 2).trans rfl⟩ (fun hHeld => ?_)
        clear hK K
        refine norm_ (a' := ?_) ?_ ?_
        rotate_left
        ·show Act.put _ (some 96) _ = _
         simp only [Act.put, setIfInBounds_toArray, set_cons_zero, set_cons_succ, i64_w, i32_w]
         rfl
        refine two_ (i := 9) (j := 11) (Ni := some 99) (Nj := some 18) #[true, true, true, true, true, true, true, true, true, true, false, false, false] #[true, true, true, true, true, true, true, true, true, false, false, true, false] rfl rfl rfl rfl (two_of HT_.out (by kernel_rfl)) (by decide) (by decide) (fun K hK => ?_) (fun K hK => ?_)
        ·skip
         refine goes_ Tryd.func10 (by kernel_rfl) rfl #[.int .i64 a2_2, .int .i64 33] (by rfl) rfl rfl (by (try simp only [List.map_toArray, List.map_cons, List.map_nil]); first | done | rfl | (simp only [List.length_drop, List.length_take]; rfl)) ?_
         with_reducible refine (wageofficelaw02_pick.calls a2_2 33 t162 _ A32.out).mono ?_
         rintro e w' ⟨rfl, ⟨nd, rfl⟩⟩
         refine ⟨_, rfl, ?_⟩
         refine hK.out _ _ ⟨(blk_cell BK146.out 0).trans rfl, (blk_cell BK146.out 1).trans rfl, (blk_cell BK146.out 2).trans rfl⟩ (fun hHeld => ?_)
         clear hK K
         refine norm_ (a' := ?_) ?_ ?_
         rotate_left
         ·show Act.put _ (some 99) _ = _
          simp only [Act.put, setIfInBounds_toArray, set_cons_zero, set_cons_succ, i64_w, i32_w]
          rfl
         refine pure_ (i := 10) (N := some 100) (v := ?_) (a' := ?_) #[true, true, true, true, true, true, true, true, true, true, true, false, false] rfl rfl (any_of HT_.out (by kernel_rfl)) (fun _ _ _ h => h) (Or.inl ⟨by rfl, ?_⟩) ?_ ?_
         rotate_left
         ·intro w'
          go_simp
          with_reducible rfl
         rotate_left
         ·simp only [Act.put, setIfInBounds_toArray, set_cons_zero, set_cons_succ, i64_w, i32_w]
          rfl
         refine one_ (i := 11) (N := some 18) #[true, true, true, true, true, true, true, true, true, true, true, true, false] rfl rfl (one_of HT_.out (by kernel_rfl)) (by decide) (fun K hK => ?_)
         refine box_step ?hg (N := 18) ?hd (cs := #[.int .i64 0, .int .i64 0, .int .i64 0]) (t := 22) ?hr ?_; (case hd => rfl); (case hg => rfl); (case hr => first | (go_simp; done) | (go_simp; rfl))
         intro gb163 hg w103 hbox hb
         have n0_ := Aside0.mk (blk_below (g := gb146) (o := .cells #[.int .i64 a2_0, .int .i64 a2_1, .int .i64 a2_2] 22 (0, 0)) (by (with_reducible repeat (first | refine blk_drewN ?_ _ | refine blk_drew ?_ | refine blk_alloc ?_ _)); exact BK146.out) hb)
         have n1_ := Aside0.mk (below_step (by repeat (first | (with_reducible first | exact HB.out | apply below_alloc | apply pw_below_drewN | apply below_drew1 | refine below_set ?_ GE146.out) | exact HB.out)) hb)
         have n2_ := Aside0.mk (hbox)
         have n3_ := Aside0.mk ((by rw [hg]; exact (below_size (by repeat (first | (with_reducible first | exact HB.out | apply below_alloc | apply pw_below_drewN | apply below_drew1 | refine below_set ?_ GE146.out) | exact HB.out))) : w.heap.size ≤ gb163))
         have n4_ := Aside0.mk ((by rw [hg]; exact (below_size (by repeat (first | (with_reducible first | exact HB.out | apply below_alloc | apply pw_below_drewN | apply below_drew1 | refine below_set ?_ GE146.out) | exact HB.out))) : w.heap.size ≤ gb163))
         have n5_ := Aside0.mk ((by rw [hg]; exact Nat.ne_of_lt (blk_lt (g := gb146) (o := .cells #[.int .i64 a2_0, .int .i64 a2_1, .int .i64 a2_2] 22 (0, 0)) (by (with_reducible repeat (first | refine blk_drewN ?_ _ | refine blk_drew ?_ | refine blk_alloc ?_ _)); exact BK146.out)) : gb146 ≠ gb163))
         have n6_ := Aside0.mk ((by rw [hg]; exact Nat.ne_of_gt (blk_lt (g := gb146) (o := .cells #[.int .i64 a2_0, .int .i64 a2_1, .int .i64 a2_2] 22 (0, 0)) (by (with_reducible repeat (first | refine blk_drewN ?_ _ | refine blk_drew ?_ | refine blk_alloc ?_ _)); exact BK146.out)) : gb163 ≠ gb146))
         clear BK146
         clear HB
         have BK146 := n0_
         have HB := n1_
         have BK163 := n2_
         have GW163 := n3_
         have GE163 := n4_
         have NB146_163 := n5_
         have NB163_146 := n6_
         clear n0_ n1_ n2_ n3_ n4_ n5_ n6_
         clear hb hbox hg
         refine hK.out _ _ ⟨(blk_cell BK146.out 0).trans rfl, (blk_cell BK146.out 1).trans rfl, (blk_cell BK146.out 2).trans rfl⟩ (fun hHeld => ?_)
         clear hK K
         refine norm_ (a' := ?_) ?_ ?_
         rotate_left
         ·show Act.put _ (some 18) _ = _
          simp only [Act.put, setIfInBounds_toArray, set_cons_zero, set_cons_succ, i64_w, i32_w]
          rfl
         exact norm_ (by simp only [putAll, Act.put, setIfInBounds_toArray, set_cons_zero, set_cons_succ]) (hCont (gb163) _ ⟨hHeld, (by (with_reducible repeat (first | refine blk_drewN ?_ _ | refine blk_drew ?_ | refine blk_alloc ?_ _)); exact BK146.out), (by (with_reducible repeat (first | refine blk_drewN ?_ _ | refine blk_drew ?_ | refine blk_alloc ?_ _)); exact BK163.out), GW163.out, GE163.out, NB146_163.out, NB163_146.out, (by repeat (first | (with_reducible first | exact HB.out | apply below_alloc | apply pw_below_drewN | apply below_drew1 | refine below_set ?_ GE146.out | refine below_set ?_ GE163.out) | exact HB.out))⟩)
        ·skip
         refine box_step ?hg (N := 18) ?hd (cs := #[.int .i64 0, .int .i64 0, .int .i64 0]) (t := 22) ?hr ?_; (case hd => rfl); (case hg => rfl); (case hr => first | (go_simp; done) | (go_simp; rfl))
         intro gb163 hg w103 hbox hb
         have n0_ := Aside0.mk (blk_below (g := gb146) (o := .cells #[.int .i64 a2_0, .int .i64 a2_1, .int .i64 a2_2] 22 (0, 0)) (by (with_reducible repeat (first | refine blk_drewN ?_ _ | refine blk_drew ?_ | refine blk_alloc ?_ _)); exact BK146.out) hb)
         have n1_ := Aside0.mk (below_step (by repeat (first | (with_reducible first | exact HB.out | apply below_alloc | apply pw_below_drewN | apply below_drew1 | refine below_set ?_ GE146.out) | exact HB.out)) hb)
         have n2_ := Aside0.mk (hbox)
         have n3_ := Aside0.mk ((by rw [hg]; exact (below_size (by repeat (first | (with_reducible first | exact HB.out | apply below_alloc | apply pw_below_drewN | apply below_drew1 | refine below_set ?_ GE146.out) | exact HB.out))) : w.heap.size ≤ gb163))
         have n4_ := Aside0.mk ((by rw [hg]; exact (below_size (by repeat (first | (with_reducible first | exact HB.out | apply below_alloc | apply pw_below_drewN | apply below_drew1 | refine below_set ?_ GE146.out) | exact HB.out))) : w.heap.size ≤ gb163))
         have n5_ := Aside0.mk ((by rw [hg]; exact Nat.ne_of_lt (blk_lt (g := gb146) (o := .cells #[.int .i64 a2_0, .int .i64 a2_1, .int .i64 a2_2] 22 (0, 0)) (by (with_reducible repeat (first | refine blk_drewN ?_ _ | refine blk_drew ?_ | refine blk_alloc ?_ _)); exact BK146.out)) : gb146 ≠ gb163))
         have n6_ := Aside0.mk ((by rw [hg]; exact Nat.ne_of_gt (blk_lt (g := gb146) (o := .cells #[.int .i64 a2_0, .int .i64 a2_1, .int .i64 a2_2] 22 (0, 0)) (by (with_reducible repeat (first | refine blk_drewN ?_ _ | refine blk_drew ?_ | refine blk_alloc ?_ _)); exact BK146.out)) : gb163 ≠ gb146))
         clear BK146
         clear HB
         have BK146 := n0_
         have HB := n1_
         have BK163 := n2_
         have GW163 := n3_
         have GE163 := n4_
         have NB146_163 := n5_
         have NB163_146 := n6_
         clear n0_ n1_ n2_ n3_ n4_ n5_ n6_
         clear hb hbox hg
         refine hK.out _ _ ⟨(blk_cell BK146.out 0).trans rfl, (blk_cell BK146.out 1).trans rfl, (blk_cell BK146.out 2).trans rfl⟩ (fun hHeld => ?_)
         clear hK K
         refine norm_ (a' := ?_) ?_ ?_
         rotate_left
         ·show Act.put _ (some 18) _ = _
          simp only [Act.put, setIfInBounds_toArray, set_cons_zero, set_cons_succ, i64_w, i32_w]
          rfl
         refine one_ (i := 9) (N := some 99) #[true, true, true, true, true, true, true, true, true, true, false, true, false] rfl rfl (one_of HT_.out (by kernel_rfl)) (by decide) (fun K hK => ?_)
         refine goes_ Tryd.func10 (by kernel_rfl) rfl #[.int .i64 a2_2, .int .i64 33] (by rfl) rfl rfl (by (try simp only [List.map_toArray, List.map_cons, List.map_nil]); first | done | rfl | (simp only [List.length_drop, List.length_take]; rfl)) ?_
         with_reducible refine (wageofficelaw02_pick.calls a2_2 33 t162 _ A32.out).mono ?_
         rintro e w' ⟨rfl, ⟨nd, rfl⟩⟩
         refine ⟨_, rfl, ?_⟩
         refine hK.out _ _ ⟨(blk_cell BK146.out 0).trans rfl, (blk_cell BK146.out 1).trans rfl, (blk_cell BK146.out 2).trans rfl⟩ (fun hHeld => ?_)
         clear hK K
         refine norm_ (a' := ?_) ?_ ?_
         rotate_left
         ·show Act.put _ (some 99) _ = _
          simp only [Act.put, setIfInBounds_toArray, set_cons_zero, set_cons_succ, i64_w, i32_w]
          rfl
         refine pure_ (i := 10) (N := some 100) (v := ?_) (a' := ?_) #[true, true, true, true, true, true, true, true, true, true, true, true, false] rfl rfl (any_of HT_.out (by kernel_rfl)) (fun _ _ _ h => h) (Or.inl ⟨by rfl, ?_⟩) ?_ ?_
         rotate_left
         ·intro w'
          go_simp
          with_reducible rfl
         rotate_left
         ·simp only [Act.put, setIfInBounds_toArray, set_cons_zero, set_cons_succ, i64_w, i32_w]
          rfl
         exact norm_ (by simp only [putAll, Act.put, setIfInBounds_toArray, set_cons_zero, set_cons_succ]) (hCont (gb163) _ ⟨hHeld, (by (with_reducible repeat (first | refine blk_drewN ?_ _ | refine blk_drew ?_ | refine blk_alloc ?_ _)); exact BK146.out), (by (with_reducible repeat (first | refine blk_drewN ?_ _ | refine blk_drew ?_ | refine blk_alloc ?_ _)); exact BK163.out), GW163.out, GE163.out, NB146_163.out, NB163_146.out, (by repeat (first | (with_reducible first | exact HB.out | apply below_alloc | apply pw_below_drewN | apply below_drew1 | refine below_set ?_ GE146.out | refine below_set ?_ GE163.out) | exact HB.out))⟩)
       ·skip
        refine box_step ?hg (N := 18) ?hd (cs := #[.int .i64 0, .int .i64 0, .int .i64 0]) (t := 22) ?hr ?_; (case hd => rfl); (case hg => rfl); (case hr => first | (go_simp; done) | (go_simp; rfl))
        intro gb163 hg w103 hbox hb
        have n0_ := Aside0.mk (blk_below (g := gb146) (o := .cells #[.int .i64 a2_0, .int .i64 a2_1, .int .i64 a2_2] 22 (0, 0)) (by (with_reducible repeat (first | refine blk_drewN ?_ _ | refine blk_drew ?_ | refine blk_alloc ?_ _)); exact BK146.out) hb)
        have n1_ := Aside0.mk (below_step (by repeat (first | (with_reducible first | exact HB.out | apply below_alloc | apply pw_below_drewN | apply below_drew1 | refine below_set ?_ GE146.out) | exact HB.out)) hb)
        have n2_ := Aside0.mk (hbox)
        have n3_ := Aside0.mk ((by rw [hg]; exact (below_size (by repeat (first | (with_reducible first | exact HB.out | apply below_alloc | apply pw_below_drewN | apply below_drew1 | refine below_set ?_ GE146.out) | exact HB.out))) : w.heap.size ≤ gb163))
        have n4_ := Aside0.mk ((by rw [hg]; exact (below_size (by repeat (first | (with_reducible first | exact HB.out | apply below_alloc | apply pw_below_drewN | apply below_drew1 | refine below_set ?_ GE146.out) | exact HB.out))) : w.heap.size ≤ gb163))
        have n5_ := Aside0.mk ((by rw [hg]; exact Nat.ne_of_lt (blk_lt (g := gb146) (o := .cells #[.int .i64 a2_0, .int .i64 a2_1, .int .i64 a2_2] 22 (0, 0)) (by (with_reducible repeat (first | refine blk_drewN ?_ _ | refine blk_drew ?_ | refine blk_alloc ?_ _)); exact BK146.out)) : gb146 ≠ gb163))
        have n6_ := Aside0.mk ((by rw [hg]; exact Nat.ne_of_gt (blk_lt (g := gb146) (o := .cells #[.int .i64 a2_0, .int .i64 a2_1, .int .i64 a2_2] 22 (0, 0)) (by (with_reducible repeat (first | refine blk_drewN ?_ _ | refine blk_drew ?_ | refine blk_alloc ?_ _)); exact BK146.out)) : gb163 ≠ gb146))
        clear BK146
        clear HB
        have BK146 := n0_
        have HB := n1_
        have BK163 := n2_
        have GW163 := n3_
        have GE163 := n4_
        have NB146_163 := n5_
        have NB163_146 := n6_
        clear n0_ n1_ n2_ n3_ n4_ n5_ n6_
        clear hb hbox hg
        refine hK.out _ _ ⟨(blk_cell BK146.out 0).trans rfl, (blk_cell BK146.out 1).trans rfl, (blk_cell BK146.out 2).trans rfl⟩ (fun hHeld => ?_)
        clear hK K
        refine norm_ (a' := ?_) ?_ ?_
        rotate_left
        ·show Act.put _ (some 18) _ = _
         simp only [Act.put, setIfInBounds_toArray, set_cons_zero, set_cons_succ, i64_w, i32_w]
         rfl
        refine one_ (i := 6) (N := some 96) #[true, true, true, true, true, true, true, true, true, false, false, true, false] rfl rfl (one_of HT_.out (by kernel_rfl)) (by decide) (fun K hK => ?_)
        refine goes_ Tryd.func10 (by kernel_rfl) rfl #[.int .i64 a2_1, .int .i64 14] (by rfl) rfl rfl (by (try simp only [List.map_toArray, List.map_cons, List.map_nil]); first | done | rfl | (simp only [List.length_drop, List.length_take]; rfl)) ?_
        with_reducible refine (wageofficelaw02_pick.calls a2_1 14 t161 _ A31.out).mono ?_
        rintro e w' ⟨rfl, ⟨nd, rfl⟩⟩
        refine ⟨_, rfl, ?_⟩
        refine hK.out _ _ ⟨(blk_cell BK146.out 0).trans rfl, (blk_cell BK146.out 1).trans rfl, (blk_cell BK146.out 2).trans rfl⟩ (fun hHeld => ?_)
        clear hK K
        refine norm_ (a' := ?_) ?_ ?_
        rotate_left
        ·show Act.put _ (some 96) _ = _
         simp only [Act.put, setIfInBounds_toArray, set_cons_zero, set_cons_succ, i64_w, i32_w]
         rfl
        refine one_ (i := 9) (N := some 99) #[true, true, true, true, true, true, true, true, true, true, false, true, false] rfl rfl (one_of HT_.out (by kernel_rfl)) (by decide) (fun K hK => ?_)
        refine goes_ Tryd.func10 (by kernel_rfl) rfl #[.int .i64 a2_2, .int .i64 33] (by rfl) rfl rfl (by (try simp only [List.map_toArray, List.map_cons, List.map_nil]); first | done | rfl | (simp only [List.length_drop, List.length_take]; rfl)) ?_
        with_reducible refine (wageofficelaw02_pick.calls a2_2 33 t162 _ A32.out).mono ?_
        rintro e w' ⟨rfl, ⟨nd, rfl⟩⟩
        refine ⟨_, rfl, ?_⟩
        refine hK.out _ _ ⟨(blk_cell BK146.out 0).trans rfl, (blk_cell BK146.out 1).trans rfl, (blk_cell BK146.out 2).trans rfl⟩ (fun hHeld => ?_)
        clear hK K
        refine norm_ (a' := ?_) ?_ ?_
        rotate_left
        ·show Act.put _ (some 99) _ = _
         simp only [Act.put, setIfInBounds_toArray, set_cons_zero, set_cons_succ, i64_w, i32_w]
         rfl
        refine pure_ (i := 10) (N := some 100) (v := ?_) (a' := ?_) #[true, true, true, true, true, true, true, true, true, true, true, true, false] rfl rfl (any_of HT_.out (by kernel_rfl)) (fun _ _ _ h => h) (Or.inl ⟨by rfl, ?_⟩) ?_ ?_
        rotate_left
        ·intro w'
         go_simp
         with_reducible rfl
        rotate_left
        ·simp only [Act.put, setIfInBounds_toArray, set_cons_zero, set_cons_succ, i64_w, i32_w]
         rfl
        exact norm_ (by simp only [putAll, Act.put, setIfInBounds_toArray, set_cons_zero, set_cons_succ]) (hCont (gb163) _ ⟨hHeld, (by (with_reducible repeat (first | refine blk_drewN ?_ _ | refine blk_drew ?_ | refine blk_alloc ?_ _)); exact BK146.out), (by (with_reducible repeat (first | refine blk_drewN ?_ _ | refine blk_drew ?_ | refine blk_alloc ?_ _)); exact BK163.out), GW163.out, GE163.out, NB146_163.out, NB163_146.out, (by repeat (first | (with_reducible first | exact HB.out | apply below_alloc | apply pw_below_drewN | apply below_drew1 | refine below_set ?_ GE146.out | refine below_set ?_ GE163.out) | exact HB.out))⟩)
      ·skip
       refine box_step ?hg (N := 18) ?hd (cs := #[.int .i64 0, .int .i64 0, .int .i64 0]) (t := 22) ?hr ?_; (case hd => rfl); (case hg => rfl); (case hr => first | (go_simp; done) | (go_simp; rfl))
       intro gb163 hg w103 hbox hb
       have n0_ := Aside0.mk (blk_below (g := gb146) (o := .cells #[.int .i64 a2_0, .int .i64 a2_1, .int .i64 a2_2] 22 (0, 0)) (by (with_reducible repeat (first | refine blk_drewN ?_ _ | refine blk_drew ?_ | refine blk_alloc ?_ _)); exact BK146.out) hb)
       have n1_ := Aside0.mk (below_step (by repeat (first | (with_reducible first | exact HB.out | apply below_alloc | apply pw_below_drewN | apply below_drew1 | refine below_set ?_ GE146.out) | exact HB.out)) hb)
       have n2_ := Aside0.mk (hbox)
       have n3_ := Aside0.mk ((by rw [hg]; exact (below_size (by repeat (first | (with_reducible first | exact HB.out | apply below_alloc | apply pw_below_drewN | apply below_drew1 | refine below_set ?_ GE146.out) | exact HB.out))) : w.heap.size ≤ gb163))
       have n4_ := Aside0.mk ((by rw [hg]; exact (below_size (by repeat (first | (with_reducible first | exact HB.out | apply below_alloc | apply pw_below_drewN | apply below_drew1 | refine below_set ?_ GE146.out) | exact HB.out))) : w.heap.size ≤ gb163))
       have n5_ := Aside0.mk ((by rw [hg]; exact Nat.ne_of_lt (blk_lt (g := gb146) (o := .cells #[.int .i64 a2_0, .int .i64 a2_1, .int .i64 a2_2] 22 (0, 0)) (by (with_reducible repeat (first | refine blk_drewN ?_ _ | refine blk_drew ?_ | refine blk_alloc ?_ _)); exact BK146.out)) : gb146 ≠ gb163))
       have n6_ := Aside0.mk ((by rw [hg]; exact Nat.ne_of_gt (blk_lt (g := gb146) (o := .cells #[.int .i64 a2_0, .int .i64 a2_1, .int .i64 a2_2] 22 (0, 0)) (by (with_reducible repeat (first | refine blk_drewN ?_ _ | refine blk_drew ?_ | refine blk_alloc ?_ _)); exact BK146.out)) : gb163 ≠ gb146))
       clear BK146
       clear HB
       have BK146 := n0_
       have HB := n1_
       have BK163 := n2_
       have GW163 := n3_
       have GE163 := n4_
       have NB146_163 := n5_
       have NB163_146 := n6_
       clear n0_ n1_ n2_ n3_ n4_ n5_ n6_
       clear hb hbox hg
       refine hK.out _ _ ⟨(blk_cell BK146.out 0).trans rfl, (blk_cell BK146.out 1).trans rfl, (blk_cell BK146.out 2).trans rfl⟩ (fun hHeld => ?_)
       clear hK K
       refine norm_ (a' := ?_) ?_ ?_
       rotate_left
       ·show Act.put _ (some 18) _ = _
        simp only [Act.put, setIfInBounds_toArray, set_cons_zero, set_cons_succ, i64_w, i32_w]
        rfl
       refine one_ (i := 2) (N := some 92) #[true, true, true, false, true, true, false, true, true, false, false, true, false] rfl rfl (one_of HT_.out (by kernel_rfl)) (by decide) (fun K hK => ?_)
       refine goes_ Tryd.func10 (by kernel_rfl) rfl #[.int .i64 a2_0, .int .i64 102] (by rfl) rfl rfl (by (try simp only [List.map_toArray, List.map_cons, List.map_nil]); first | done | rfl | (simp only [List.length_drop, List.length_take]; rfl)) ?_
       with_reducible refine (wageofficelaw02_pick.calls a2_0 102 t160 _ A30.out).mono ?_
       rintro e w' ⟨rfl, ⟨nd, rfl⟩⟩
       refine ⟨_, rfl, ?_⟩
       refine hK.out _ _ ⟨(blk_cell BK146.out 0).trans rfl, (blk_cell BK146.out 1).trans rfl, (blk_cell BK146.out 2).trans rfl⟩ (fun hHeld => ?_)
       clear hK K
       refine norm_ (a' := ?_) ?_ ?_
       rotate_left
       ·show Act.put _ (some 92) _ = _
        simp only [Act.put, setIfInBounds_toArray, set_cons_zero, set_cons_succ, i64_w, i32_w]
        rfl
       refine pure_ (i := 3) (N := some 93) (v := ?_) (a' := ?_) #[true, true, true, true, true, true, false, true, true, false, false, true, false] rfl rfl (any_of HT_.out (by kernel_rfl)) (fun _ _ _ h => h) (Or.inl ⟨by rfl, ?_⟩) ?_ ?_
       rotate_left
       ·intro w'
        go_simp
        with_reducible rfl
       rotate_left
       ·simp only [Act.put, setIfInBounds_toArray, set_cons_zero, set_cons_succ, i64_w, i32_w]
        rfl
       refine one_ (i := 6) (N := some 96) #[true, true, true, true, true, true, true, true, true, false, false, true, false] rfl rfl (one_of HT_.out (by kernel_rfl)) (by decide) (fun K hK => ?_)
       refine goes_ Tryd.func10 (by kernel_rfl) rfl #[.int .i64 a2_1, .int .i64 14] (by rfl) rfl rfl (by (try simp only [List.map_toArray, List.map_cons, List.map_nil]); first | done | rfl | (simp only [List.length_drop, List.length_take]; rfl)) ?_
       with_reducible refine (wageofficelaw02_pick.calls a2_1 14 t161 _ A31.out).mono ?_
       rintro e w' ⟨rfl, ⟨nd, rfl⟩⟩
       refine ⟨_, rfl, ?_⟩
       refine hK.out _ _ ⟨(blk_cell BK146.out 0).trans rfl, (blk_cell BK146.out 1).trans rfl, (blk_cell BK146.out 2).trans rfl⟩ (fun hHeld => ?_)
       clear hK K
       refine norm_ (a' := ?_) ?_ ?_
       rotate_left
       ·show Act.put _ (some 96) _ = _
        simp only [Act.put, setIfInBounds_toArray, set_cons_zero, set_cons_succ, i64_w, i32_w]
        rfl
       refine one_ (i := 9) (N := some 99) #[true, true, true, true, true, true, true, true, true, true, false, true, false] rfl rfl (one_of HT_.out (by kernel_rfl)) (by decide) (fun K hK => ?_)
       refine goes_ Tryd.func10 (by kernel_rfl) rfl #[.int .i64 a2_2, .int .i64 33] (by rfl) rfl rfl (by (try simp only [List.map_toArray, List.map_cons, List.map_nil]); first | done | rfl | (simp only [List.length_drop, List.length_take]; rfl)) ?_
       with_reducible refine (wageofficelaw02_pick.calls a2_2 33 t162 _ A32.out).mono ?_
       rintro e w' ⟨rfl, ⟨nd, rfl⟩⟩
       refine ⟨_, rfl, ?_⟩
       refine hK.out _ _ ⟨(blk_cell BK146.out 0).trans rfl, (blk_cell BK146.out 1).trans rfl, (blk_cell BK146.out 2).trans rfl⟩ (fun hHeld => ?_)
       clear hK K
       refine norm_ (a' := ?_) ?_ ?_
       rotate_left
       ·show Act.put _ (some 99) _ = _
        simp only [Act.put, setIfInBounds_toArray, set_cons_zero, set_cons_succ, i64_w, i32_w]
        rfl
       refine pure_ (i := 10) (N := some 100) (v := ?_) (a' := ?_) #[true, true, true, true, true, true, true, true, true, true, true, true, false] rfl rfl (any_of HT_.out (by kernel_rfl)) (fun _ _ _ h => h) (Or.inl ⟨by rfl, ?_⟩) ?_ ?_
       rotate_left
       ·intro w'
        go_simp
        with_reducible rfl
       rotate_left
       ·simp only [Act.put, setIfInBounds_toArray, set_cons_zero, set_cons_succ, i64_w, i32_w]
        rfl
       exact norm_ (by simp only [putAll, Act.put, setIfInBounds_toArray, set_cons_zero, set_cons_succ]) (hCont (gb163) _ ⟨hHeld, (by (with_reducible repeat (first | refine blk_drewN ?_ _ | refine blk_drew ?_ | refine blk_alloc ?_ _)); exact BK146.out), (by (with_reducible repeat (first | refine blk_drewN ?_ _ | refine blk_drew ?_ | refine blk_alloc ?_ _)); exact BK163.out), GW163.out, GE163.out, NB146_163.out, NB163_146.out, (by repeat (first | (with_reducible first | exact HB.out | apply below_alloc | apply pw_below_drewN | apply below_drew1 | refine below_set ?_ GE146.out | refine below_set ?_ GE163.out) | exact HB.out))⟩)
     rintro gb163 w104 ⟨hS_, h0_, h1_, h2_, h3_, h4_, h5_, h6_⟩
     have n0_ : Aside0 (w104.heap[gb146]? = some (.cells #[.int .i64 a2_0, .int .i64 a2_1, .int .i64 a2_2] 22 (0, 0))) := ⟨h0_⟩
     have n1_ : Aside0 (w104.heap[gb163]? = some (.cells #[.int .i64 0, .int .i64 0, .int .i64 0] 22 (0, 0))) := ⟨h1_⟩
     have n2_ : Aside0 (w.heap.size ≤ gb163) := ⟨h2_⟩
     have n3_ : Aside0 (w.heap.size ≤ gb163) := ⟨h3_⟩
     have n4_ : Aside0 (gb146 ≠ gb163) := ⟨h4_⟩
     have n5_ : Aside0 (gb163 ≠ gb146) := ⟨h5_⟩
     have n6_ : Aside0 (Below w.heap.size w w104) := ⟨h6_⟩
     clear BK146
     clear HB
     clear h0_ h1_ h2_ h3_ h4_ h5_ h6_
     have BK146 := n0_
     have BK163 := n1_
     have GW163 := n2_
     have GE163 := n3_
     have NB146_163 := n4_
     have NB163_146 := n5_
     have HB := n6_
     clear n0_ n1_ n2_ n3_ n4_ n5_ n6_
     have hHeld : w104.cell? ⟨gb146, 0, none⟩ = some (.int .i64 a2_0) ∧ w104.cell? ⟨gb146, 1, none⟩ = some (.int .i64 a2_1) ∧ w104.cell? ⟨gb146, 2, none⟩ = some (.int .i64 a2_2) := hS_
     refine norm_ (a' := ?_) ?_ ?_
     rotate_left
     ·simp only [putAll, Act.put, setIfInBounds_toArray, set_cons_zero, set_cons_succ]
      rfl
     refine one_ (i := 12) (N := none) #[true, true, true, true, true, true, true, true, true, true, true, true, true] rfl rfl (one_of HT_.out (by kernel_rfl)) (by decide) (fun K hK => ?_)
     have hs105 : w104.cell? ⟨gb163, 0, none⟩ = some (.int .i64 0) := (blk_cell BK163.out 0).trans rfl
     have hfs105 := blk_frozen BK163.out 0
     have hns105_0 := NB146_163.out
     have hms105_0 := NB163_146.out
     have hs106 : w104.cell? ⟨gb163, 1, none⟩ = some (.int .i64 0) := (blk_cell BK163.out 1).trans rfl
     have hfs106 := blk_frozen BK163.out 1
     have hns106_0 := NB146_163.out
     have hms106_0 := NB163_146.out
     have hs107 : w104.cell? ⟨gb163, 2, none⟩ = some (.int .i64 0) := (blk_cell BK163.out 2).trans rfl
     have hfs107 := blk_frozen BK163.out 2
     have hns107_0 := NB146_163.out
     have hms107_0 := NB163_146.out
     refine skip_ (w1 := ?_) (by rfl) rfl ?_ ?_
     rotate_left
     ·go_simp
      rfl
     refine hK.out _ _ ⟨((cell_far (p := ⟨gb163, _, none⟩) NB146_163.out _).trans (((cell_far (p := ⟨gb163, _, none⟩) NB146_163.out _).trans (((cell_far (p := ⟨gb163, _, none⟩) NB146_163.out _).trans (hHeld.1)))))), ((cell_far (p := ⟨gb163, _, none⟩) NB146_163.out _).trans (((cell_far (p := ⟨gb163, _, none⟩) NB146_163.out _).trans (((cell_far (p := ⟨gb163, _, none⟩) NB146_163.out _).trans (hHeld.2.1)))))), ((cell_far (p := ⟨gb163, _, none⟩) NB146_163.out _).trans (((cell_far (p := ⟨gb163, _, none⟩) NB146_163.out _).trans (((cell_far (p := ⟨gb163, _, none⟩) NB146_163.out _).trans (hHeld.2.2))))))⟩ (fun hHeld => ?_)
     clear hK K
     refine done_ (done_of HT_.out (by kernel_rfl)) ?_
     have hnb108 := NB163_146.out
     have hnc108 := NB146_163.out
     have hcz109_0 : w104.cell? ⟨gb163, 0, none⟩ = some (.int .i64 0) := (blk_cell BK163.out 0).trans rfl
     have hcz109_1 : w104.cell? ⟨gb163, 1, none⟩ = some (.int .i64 0) := (blk_cell BK163.out 1).trans rfl
     have hcz109_2 : w104.cell? ⟨gb163, 2, none⟩ = some (.int .i64 0) := (blk_cell BK163.out 2).trans rfl
     have hfz109_0 := blk_frozen BK163.out 0
     have hfz109_1 := blk_frozen BK163.out 1
     have hfz109_2 := blk_frozen BK163.out 2
     try go_wp2_with (first | ((with_reducible refine gate_callee (f := 25) rfl ?_); refine goesL_ (some 108) rfl rfl Tryd.func25 (by kernel_rfl) rfl #[.int .i64 (wrap64 (1999 + t160)), .int .i64 t161, .int .i64 t162] rfl (by (try simp only [List.map_toArray, List.map_cons, List.map_nil]); first | done | rfl | (simp only [List.length_drop, List.length_take]; rfl)) ?_; (with_reducible refine (calendar_Day.calls (wrap64 (1999 + t160)) t161 t162 t164 t165 _ A33.out (TabBefore.below hTBefore.out (by repeat (first | exact HB.out | apply below_alloc | apply pw_below_drewN | apply below_drew1 | refine below_set ?_ GE146.out | refine below_set ?_ GE163.out)))).mono ?_); rintro e w110 ⟨rfl, hb⟩; refine ⟨_, rfl, ?_⟩; have n0_ := Aside0.mk (blk_below (g := gb146) (o := .cells #[.int .i64 a2_0, .int .i64 a2_1, .int .i64 a2_2] 22 (0, 0)) (by (with_reducible repeat (first | refine blk_drewN ?_ _ | refine blk_drew ?_ | refine blk_alloc ?_ _)); refine blk_far ?_ NB146_163.out _; (with_reducible repeat (first | refine blk_drewN ?_ _ | refine blk_drew ?_ | refine blk_alloc ?_ _)); refine blk_far ?_ NB146_163.out _; (with_reducible repeat (first | refine blk_drewN ?_ _ | refine blk_drew ?_ | refine blk_alloc ?_ _)); refine blk_far ?_ NB146_163.out _; (with_reducible repeat (first | refine blk_drewN ?_ _ | refine blk_drew ?_ | refine blk_alloc ?_ _)); exact BK146.out) hb); have n1_ := Aside0.mk (blk_below (g := gb163) (o := .cells #[.int .i64 (wrap64 (1999 + t160)), .int .i64 t161, .int .i64 t162] 22 (0, 0)) (by (with_reducible repeat (first | refine blk_drewN ?_ _ | refine blk_drew ?_ | refine blk_alloc ?_ _)); refine blk_put (cs := #[.int .i64 (wrap64 (1999 + t160)), .int .i64 t161, .int .i64 0]) ?_ 2 _ rfl; (with_reducible repeat (first | refine blk_drewN ?_ _ | refine blk_drew ?_ | refine blk_alloc ?_ _)); refine blk_put (cs := #[.int .i64 (wrap64 (1999 + t160)), .int .i64 0, .int .i64 0]) ?_ 1 _ rfl; (with_reducible repeat (first | refine blk_drewN ?_ _ | refine blk_drew ?_ | refine blk_alloc ?_ _)); refine blk_put (cs := #[.int .i64 0, .int .i64 0, .int .i64 0]) ?_ 0 _ rfl; (with_reducible repeat (first | refine blk_drewN ?_ _ | refine blk_drew ?_ | refine blk_alloc ?_ _)); exact BK163.out) hb); have n2_ := Aside0.mk (below_step (by repeat (first | (with_reducible first | exact HB.out | apply below_alloc | apply pw_below_drewN | apply below_drew1 | refine below_set ?_ GE146.out | refine below_set ?_ GE163.out) | exact HB.out)) hb); clear BK146; clear BK163; clear HB; have BK146 := n0_; have BK163 := n1_; have HB := n2_; clear n0_ n1_ n2_; (try clear hb); (try clear hb2); (try clear hk); (try clear hi)))
     go_ret
     exact ⟨by first | rfl | (simp [errW_none, errW_some] <;> rfl) | (simp [*, errW_none, errW_some] <;> rfl), by repeat (first | (with_reducible first | exact HB.out | apply below_alloc | apply pw_below_drewN | apply below_drew1 | refine below_set ?_ GE146.out | refine below_set ?_ GE163.out) | exact HB.out)⟩

abbrev wageofficelaw02_CalendarInverse.f (k : Nat) (a0 : Int) (a1 : Int) (a2_0 : Int) (a2_1 : Int) (a2_2 : Int) : Option (Bool) := CI.f k a0 a1 a2_0 a2_1 a2_2
theorem wageofficelaw02_CalendarInverse.calls (k : Nat) (a0 : Int) (a1 : Int) (a2_0 : Int) (a2_1 : Int) (a2_2 : Int) (r : Bool) (w : World) (h : wageofficelaw02_CalendarInverse.f k a0 a1 a2_0 a2_1 a2_2 = some r) (hTBefore0 : TabBefore w) :
  Calls Tryd.prog 4 #[.int .i64 a0, .int .i64 a1, .agg #[.int .i64 a2_0, .int .i64 a2_1, .int .i64 a2_2]] w fun e w' => e = .returned (.bool r) ∧ Below w.heap.size w w' := CI.calls k a0 a1 a2_0 a2_1 a2_2 r w h hTBefore0
end Go.Proofs.YthakhcnpiobpgaaDoor.PAll
