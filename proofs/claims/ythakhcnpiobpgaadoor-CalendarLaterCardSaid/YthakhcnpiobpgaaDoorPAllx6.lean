-- Written by myprint.py over the kit's print.py (a printed text of this session's own make).
import Derived.Test.YthakhcnpiobpgaaDoorPAllx0
import Derived.Test.YthakhcnpiobpgaaDoorPAllx1
import Derived.Test.YthakhcnpiobpgaaDoorPAllx2
namespace Go.Proofs.YthakhcnpiobpgaaDoor.PAll
open Go.Proofs.YthakhcnpiobpgaaDoor.Stub Go.Proofs.YthakhcnpiobpgaaDoor.CalA
open Go.RowKit Go.Proofs.YthakhcnpiobpgaaDoorW.PrintWords Go.Proofs.YthakhcnpiobpgaaDoorW.PrintLast Go.Proofs.YthakhcnpiobpgaaDoorW.PrintMore
attribute [local go_sem] max2_int min2_int max_two min_two max_three min_three max_four min_four   -- for this text's walks alone
set_option linter.unusedVariables false
set_option linter.unusedSimpArgs false

/-! ### wageofficelaw02_CalendarNext: function 5 -/
def wageofficelaw02_CalendarNext.j0 : Nat → Bool → Int → Int → Int → Int → Int → Int → Int → Int → Int → Bool → Option (Bool)
  | 0, _, _, _, _, _, _, _, _, _, _, _ => none
  | k + 1, x3, x4, x5, x6, x7, x8, x9, x10, x11, x12, x13 => if x10 = 1 then (if x8 = x5 then (if x9 = (wrap64 (x6 + 1)) then ((calendar_Month.f (wrap64 (x4 + 1))).bind fun t239 => ((calendar_Month.f x4).bind fun t240 => (if t239 = (wrap64 (t240 + 1)) then ((calendar_Month.f x4).bind fun t241 => ((calendar_Length.f t241).bind fun t242 => (if x3 = true then (if x13 = true then (if x11 ≥ 1 then (if x11 ≤ 7 then (some (x12 == (wrap64 ((Int.tmod x11 7) + 1)))) else (some false)) else (some false)) else (if x7 = t242 then (if x11 ≥ 1 then (if x11 ≤ 7 then (some (x12 == (wrap64 ((Int.tmod x11 7) + 1)))) else (some false)) else (some false)) else (some false))) else (some false)))) else (if x3 = true then (if x13 = true then (if x11 ≥ 1 then (if x11 ≤ 7 then (some (x12 == (wrap64 ((Int.tmod x11 7) + 1)))) else (some false)) else (some false)) else (some false)) else (some false))))) else (if x8 = (wrap64 (x5 + 1)) then (if x9 = 1 then (if x6 = 12 then ((calendar_Month.f (wrap64 (x4 + 1))).bind fun t243 => ((calendar_Month.f x4).bind fun t244 => (if t243 = (wrap64 (t244 + 1)) then ((calendar_Month.f x4).bind fun t245 => ((calendar_Length.f t245).bind fun t246 => (if x3 = true then (if x13 = true then (if x11 ≥ 1 then (if x11 ≤ 7 then (some (x12 == (wrap64 ((Int.tmod x11 7) + 1)))) else (some false)) else (some false)) else (if x7 = t246 then (if x11 ≥ 1 then (if x11 ≤ 7 then (some (x12 == (wrap64 ((Int.tmod x11 7) + 1)))) else (some false)) else (some false)) else (some false))) else (some false)))) else (if x3 = true then (if x13 = true then (if x11 ≥ 1 then (if x11 ≤ 7 then (some (x12 == (wrap64 ((Int.tmod x11 7) + 1)))) else (some false)) else (some false)) else (some false)) else (some false))))) else (if x3 = true then (if x13 = true then (if x11 ≥ 1 then (if x11 ≤ 7 then (some (x12 == (wrap64 ((Int.tmod x11 7) + 1)))) else (some false)) else (some false)) else (some false)) else (some false))) else (if x3 = true then (if x13 = true then (if x11 ≥ 1 then (if x11 ≤ 7 then (some (x12 == (wrap64 ((Int.tmod x11 7) + 1)))) else (some false)) else (some false)) else (some false)) else (some false))) else (if x3 = true then (if x13 = true then (if x11 ≥ 1 then (if x11 ≤ 7 then (some (x12 == (wrap64 ((Int.tmod x11 7) + 1)))) else (some false)) else (some false)) else (some false)) else (some false)))) else (if x8 = (wrap64 (x5 + 1)) then (if x9 = 1 then (if x6 = 12 then ((calendar_Month.f (wrap64 (x4 + 1))).bind fun t247 => ((calendar_Month.f x4).bind fun t248 => (if t247 = (wrap64 (t248 + 1)) then ((calendar_Month.f x4).bind fun t249 => ((calendar_Length.f t249).bind fun t250 => (if x3 = true then (if x13 = true then (if x11 ≥ 1 then (if x11 ≤ 7 then (some (x12 == (wrap64 ((Int.tmod x11 7) + 1)))) else (some false)) else (some false)) else (if x7 = t250 then (if x11 ≥ 1 then (if x11 ≤ 7 then (some (x12 == (wrap64 ((Int.tmod x11 7) + 1)))) else (some false)) else (some false)) else (some false))) else (some false)))) else (if x3 = true then (if x13 = true then (if x11 ≥ 1 then (if x11 ≤ 7 then (some (x12 == (wrap64 ((Int.tmod x11 7) + 1)))) else (some false)) else (some false)) else (some false)) else (some false))))) else (if x3 = true then (if x13 = true then (if x11 ≥ 1 then (if x11 ≤ 7 then (some (x12 == (wrap64 ((Int.tmod x11 7) + 1)))) else (some false)) else (some false)) else (some false)) else (some false))) else (if x3 = true then (if x13 = true then (if x11 ≥ 1 then (if x11 ≤ 7 then (some (x12 == (wrap64 ((Int.tmod x11 7) + 1)))) else (some false)) else (some false)) else (some false)) else (some false))) else (if x3 = true then (if x13 = true then (if x11 ≥ 1 then (if x11 ≤ 7 then (some (x12 == (wrap64 ((Int.tmod x11 7) + 1)))) else (some false)) else (some false)) else (some false)) else (some false)))) else (if x3 = true then (if x13 = true then (if x11 ≥ 1 then (if x11 ≤ 7 then (some (x12 == (wrap64 ((Int.tmod x11 7) + 1)))) else (some false)) else (some false)) else (some false)) else (some false))
def wageofficelaw02_CalendarNext.f (k : Nat) (a0 : Int) : Option (Bool) := (wageofficelaw02_head.f k).bind fun t227 => ((wageofficelaw02_pick.f a0 36524).bind fun t228 => ((calendar_Date.f t228).bind fun bt229 => ((calendar_Date.f (wrap64 (t228 + 1))).bind fun bt232 => ((calendar_Weekday.f t228).bind fun t235 => ((calendar_Weekday.f (wrap64 (t228 + 1))).bind fun t236 => (if bt232.1 = bt229.1 then (if bt232.2.1 = bt229.2.1 then (if bt232.2.2 = (wrap64 (bt229.2.2 + 1)) then ((calendar_Month.f (wrap64 (t228 + 1))).bind fun t237 => ((calendar_Month.f t228).bind fun t238 => (wageofficelaw02_CalendarNext.j0 k t227 t228 bt229.1 bt229.2.1 bt229.2.2 bt232.1 bt232.2.1 bt232.2.2 t235 t236 (t237 == t238)))) else (wageofficelaw02_CalendarNext.j0 k t227 t228 bt229.1 bt229.2.1 bt229.2.2 bt232.1 bt232.2.1 bt232.2.2 t235 t236 false)) else (wageofficelaw02_CalendarNext.j0 k t227 t228 bt229.1 bt229.2.1 bt229.2.2 bt232.1 bt232.2.1 bt232.2.2 t235 t236 false)) else (wageofficelaw02_CalendarNext.j0 k t227 t228 bt229.1 bt229.2.1 bt229.2.2 bt232.1 bt232.2.1 bt232.2.2 t235 t236 false)))))))
theorem wageofficelaw02_CalendarNext.mono_l : ∀ k, (∀ y0 y1 y2 y3 y4 y5 y6 y7 y8 y9 y10, LeO (wageofficelaw02_CalendarNext.j0 k y0 y1 y2 y3 y4 y5 y6 y7 y8 y9 y10) (wageofficelaw02_CalendarNext.j0 (k + 1) y0 y1 y2 y3 y4 y5 y6 y7 y8 y9 y10))
  | 0 => fun _ _ _ _ _ _ _ _ _ _ _ r h => by simp [wageofficelaw02_CalendarNext.j0] at h
  | k + 1 => by
    have ih0 := wageofficelaw02_CalendarNext.mono_l k
    · intro y0 y1 y2 y3 y4 y5 y6 y7 y8 y9 y10
      unfold wageofficelaw02_CalendarNext.j0
      repeat' first
      | (with_reducible exact ih0 _ _ _ _ _ _ _ _ _ _ _)
      | (with_reducible exact wageofficelaw02_head.mono _)
      | (with_reducible exact LeO.refl _)
      | (with_reducible exact LeO.none _)
      | (with_reducible refine LeO.ite ?_ ?_)
      | (with_reducible refine LeO.bind ?_ (fun _ => ?_))
      | exact ih0 _ _ _ _ _ _ _ _ _ _ _
      | exact wageofficelaw02_head.mono _
      | exact LeO.none _
      | refine LeO.ite ?_ ?_
      | refine LeO.bind ?_ (fun _ => ?_)
theorem wageofficelaw02_CalendarNext.mono : ∀ a0 k, LeO (wageofficelaw02_CalendarNext.f k a0) (wageofficelaw02_CalendarNext.f (k + 1) a0) := by
  intro a0 k
  have ih0 := wageofficelaw02_CalendarNext.mono_l k
  unfold wageofficelaw02_CalendarNext.f
  repeat' first
      | (with_reducible exact ih0 _ _ _ _ _ _ _ _ _ _ _)
      | (with_reducible exact wageofficelaw02_head.mono _)
      | (with_reducible exact LeO.refl _)
      | (with_reducible exact LeO.none _)
      | (with_reducible refine LeO.ite ?_ ?_)
      | (with_reducible refine LeO.bind ?_ (fun _ => ?_))
      | exact ih0 _ _ _ _ _ _ _ _ _ _ _
      | exact wageofficelaw02_head.mono _
      | exact LeO.none _
      | refine LeO.ite ?_ ?_
      | refine LeO.bind ?_ (fun _ => ?_)
set_option maxHeartbeats 8000000 in
set_option maxRecDepth 100000 in
theorem wageofficelaw02_CalendarNext.calls (k : Nat) (a0 : Int) (r : Bool) (w : World) (h : wageofficelaw02_CalendarNext.f k a0 = some r) (hTBefore0 : TabBefore w) :
    Calls Tryd.prog 5 #[.int .i64 a0] w fun e w' => e = .returned (.bool r) ∧ Below w.heap.size w w' := by
  have hTBefore := Aside0.mk hTBefore0
  clear hTBefore0
  have HB := Aside0.mk (Below.refl w.heap.size w)
  have H : ((wageofficelaw02_head.f k).bind fun t227 => ((wageofficelaw02_pick.f a0 36524).bind fun t228 => ((calendar_Date.f t228).bind fun bt229 => ((calendar_Date.f (wrap64 (t228 + 1))).bind fun bt232 => ((calendar_Weekday.f t228).bind fun t235 => ((calendar_Weekday.f (wrap64 (t228 + 1))).bind fun t236 => (if bt232.1 = bt229.1 then (if bt232.2.1 = bt229.2.1 then (if bt232.2.2 = (wrap64 (bt229.2.2 + 1)) then ((calendar_Month.f (wrap64 (t228 + 1))).bind fun t237 => ((calendar_Month.f t228).bind fun t238 => (wageofficelaw02_CalendarNext.j0 k t227 t228 bt229.1 bt229.2.1 bt229.2.2 bt232.1 bt232.2.1 bt232.2.2 t235 t236 (t237 == t238)))) else (wageofficelaw02_CalendarNext.j0 k t227 t228 bt229.1 bt229.2.1 bt229.2.2 bt232.1 bt232.2.1 bt232.2.2 t235 t236 false)) else (wageofficelaw02_CalendarNext.j0 k t227 t228 bt229.1 bt229.2.1 bt229.2.2 bt232.1 bt232.2.1 bt232.2.2 t235 t236 false)) else (wageofficelaw02_CalendarNext.j0 k t227 t228 bt229.1 bt229.2.1 bt229.2.2 bt232.1 bt232.2.1 bt232.2.2 t235 t236 false)))))))) = some r := h
  clear h
  replace H := Option.bind_eq_some_iff.mp H
  obtain ⟨t227, A20, H⟩ := H
  replace H : ((wageofficelaw02_pick.f a0 36524).bind fun t228 => ((calendar_Date.f t228).bind fun bt229 => ((calendar_Date.f (wrap64 (t228 + 1))).bind fun bt232 => ((calendar_Weekday.f t228).bind fun t235 => ((calendar_Weekday.f (wrap64 (t228 + 1))).bind fun t236 => (if bt232.1 = bt229.1 then (if bt232.2.1 = bt229.2.1 then (if bt232.2.2 = (wrap64 (bt229.2.2 + 1)) then ((calendar_Month.f (wrap64 (t228 + 1))).bind fun t237 => ((calendar_Month.f t228).bind fun t238 => (wageofficelaw02_CalendarNext.j0 k t227 t228 bt229.1 bt229.2.1 bt229.2.2 bt232.1 bt232.2.1 bt232.2.2 t235 t236 (t237 == t238)))) else (wageofficelaw02_CalendarNext.j0 k t227 t228 bt229.1 bt229.2.1 bt229.2.2 bt232.1 bt232.2.1 bt232.2.2 t235 t236 false)) else (wageofficelaw02_CalendarNext.j0 k t227 t228 bt229.1 bt229.2.1 bt229.2.2 bt232.1 bt232.2.1 bt232.2.2 t235 t236 false)) else (wageofficelaw02_CalendarNext.j0 k t227 t228 bt229.1 bt229.2.1 bt229.2.2 bt232.1 bt232.2.1 bt232.2.2 t235 t236 false))))))) = some r := H
  have A2 := Aside0.mk A20
  clear A20
  replace H := Option.bind_eq_some_iff.mp H
  obtain ⟨t228, A30, H⟩ := H
  replace H : ((calendar_Date.f t228).bind fun bt229 => ((calendar_Date.f (wrap64 (t228 + 1))).bind fun bt232 => ((calendar_Weekday.f t228).bind fun t235 => ((calendar_Weekday.f (wrap64 (t228 + 1))).bind fun t236 => (if bt232.1 = bt229.1 then (if bt232.2.1 = bt229.2.1 then (if bt232.2.2 = (wrap64 (bt229.2.2 + 1)) then ((calendar_Month.f (wrap64 (t228 + 1))).bind fun t237 => ((calendar_Month.f t228).bind fun t238 => (wageofficelaw02_CalendarNext.j0 k t227 t228 bt229.1 bt229.2.1 bt229.2.2 bt232.1 bt232.2.1 bt232.2.2 t235 t236 (t237 == t238)))) else (wageofficelaw02_CalendarNext.j0 k t227 t228 bt229.1 bt229.2.1 bt229.2.2 bt232.1 bt232.2.1 bt232.2.2 t235 t236 false)) else (wageofficelaw02_CalendarNext.j0 k t227 t228 bt229.1 bt229.2.1 bt229.2.2 bt232.1 bt232.2.1 bt232.2.2 t235 t236 false)) else (wageofficelaw02_CalendarNext.j0 k t227 t228 bt229.1 bt229.2.1 bt229.2.2 bt232.1 bt232.2.1 bt232.2.2 t235 t236 false)))))) = some r := H
  have A3 := Aside0.mk A30
  clear A30
  replace H := Option.bind_eq_some_iff.mp H
  obtain ⟨⟨t229, t230, t231⟩, A40, H⟩ := H
  replace H : ((calendar_Date.f (wrap64 (t228 + 1))).bind fun bt232 => ((calendar_Weekday.f t228).bind fun t235 => ((calendar_Weekday.f (wrap64 (t228 + 1))).bind fun t236 => (if bt232.1 = t229 then (if bt232.2.1 = t230 then (if bt232.2.2 = (wrap64 (t231 + 1)) then ((calendar_Month.f (wrap64 (t228 + 1))).bind fun t237 => ((calendar_Month.f t228).bind fun t238 => (wageofficelaw02_CalendarNext.j0 k t227 t228 t229 t230 t231 bt232.1 bt232.2.1 bt232.2.2 t235 t236 (t237 == t238)))) else (wageofficelaw02_CalendarNext.j0 k t227 t228 t229 t230 t231 bt232.1 bt232.2.1 bt232.2.2 t235 t236 false)) else (wageofficelaw02_CalendarNext.j0 k t227 t228 t229 t230 t231 bt232.1 bt232.2.1 bt232.2.2 t235 t236 false)) else (wageofficelaw02_CalendarNext.j0 k t227 t228 t229 t230 t231 bt232.1 bt232.2.1 bt232.2.2 t235 t236 false))))) = some r := H
  have A4 := Aside0.mk A40
  clear A40
  replace H := Option.bind_eq_some_iff.mp H
  obtain ⟨⟨t232, t233, t234⟩, A50, H⟩ := H
  replace H : ((calendar_Weekday.f t228).bind fun t235 => ((calendar_Weekday.f (wrap64 (t228 + 1))).bind fun t236 => (if t232 = t229 then (if t233 = t230 then (if t234 = (wrap64 (t231 + 1)) then ((calendar_Month.f (wrap64 (t228 + 1))).bind fun t237 => ((calendar_Month.f t228).bind fun t238 => (wageofficelaw02_CalendarNext.j0 k t227 t228 t229 t230 t231 t232 t233 t234 t235 t236 (t237 == t238)))) else (wageofficelaw02_CalendarNext.j0 k t227 t228 t229 t230 t231 t232 t233 t234 t235 t236 false)) else (wageofficelaw02_CalendarNext.j0 k t227 t228 t229 t230 t231 t232 t233 t234 t235 t236 false)) else (wageofficelaw02_CalendarNext.j0 k t227 t228 t229 t230 t231 t232 t233 t234 t235 t236 false)))) = some r := H
  have A5 := Aside0.mk A50
  clear A50
  replace H := Option.bind_eq_some_iff.mp H
  obtain ⟨t235, A60, H⟩ := H
  replace H : ((calendar_Weekday.f (wrap64 (t228 + 1))).bind fun t236 => (if t232 = t229 then (if t233 = t230 then (if t234 = (wrap64 (t231 + 1)) then ((calendar_Month.f (wrap64 (t228 + 1))).bind fun t237 => ((calendar_Month.f t228).bind fun t238 => (wageofficelaw02_CalendarNext.j0 k t227 t228 t229 t230 t231 t232 t233 t234 t235 t236 (t237 == t238)))) else (wageofficelaw02_CalendarNext.j0 k t227 t228 t229 t230 t231 t232 t233 t234 t235 t236 false)) else (wageofficelaw02_CalendarNext.j0 k t227 t228 t229 t230 t231 t232 t233 t234 t235 t236 false)) else (wageofficelaw02_CalendarNext.j0 k t227 t228 t229 t230 t231 t232 t233 t234 t235 t236 false))) = some r := H
  have A6 := Aside0.mk A60
  clear A60
  replace H := Option.bind_eq_some_iff.mp H
  obtain ⟨t236, A70, H⟩ := H
  replace H : (if t232 = t229 then (if t233 = t230 then (if t234 = (wrap64 (t231 + 1)) then ((calendar_Month.f (wrap64 (t228 + 1))).bind fun t237 => ((calendar_Month.f t228).bind fun t238 => (wageofficelaw02_CalendarNext.j0 k t227 t228 t229 t230 t231 t232 t233 t234 t235 t236 (t237 == t238)))) else (wageofficelaw02_CalendarNext.j0 k t227 t228 t229 t230 t231 t232 t233 t234 t235 t236 false)) else (wageofficelaw02_CalendarNext.j0 k t227 t228 t229 t230 t231 t232 t233 t234 t235 t236 false)) else (wageofficelaw02_CalendarNext.j0 k t227 t228 t229 t230 t231 t232 t233 t234 t235 t236 false)) = some r := H
  have A7 := Aside0.mk A70
  clear A70
  have HC8 := Aside0.mk H
  clear H
  go_enter Tryd.func5, Tryd.ntmps5
  go_upto_region 7 with (first | ((with_reducible refine gate_callee (f := 9) rfl ?_); refine goesL_ (some 15) rfl rfl Tryd.func9 (by kernel_rfl) rfl #[] rfl (by (try simp only [List.map_toArray, List.map_cons, List.map_nil]); first | done | rfl | (simp only [List.length_drop, List.length_take]; rfl)) ?_; (with_reducible refine (wageofficelaw02_head.calls k  t227 _ A2.out (TabBefore.below hTBefore.out (by repeat (first | exact HB.out | exact Below.refl _ _ | apply below_alloc | apply pw_below_drewN | apply below_drew1 | apply below_drew)))).mono ?_); rintro e w9 ⟨rfl, hb⟩; refine ⟨_, rfl, ?_⟩; have n0_ := Aside0.mk (below_step (by repeat (first | (with_reducible first | exact HB.out | apply below_alloc | apply pw_below_drewN | apply below_drew1) | exact HB.out)) hb); clear HB; have HB := n0_; clear n0_; (try clear hb); (try clear hb2); (try clear hk); (try clear hi)) | ((with_reducible refine gate_callee (f := 10) rfl ?_); refine goesL_ (some 17) rfl rfl Tryd.func10 (by kernel_rfl) rfl #[.int .i64 a0, .int .i64 36524] rfl (by (try simp only [List.map_toArray, List.map_cons, List.map_nil]); first | done | rfl | (simp only [List.length_drop, List.length_take]; rfl)) ?_; (with_reducible refine (wageofficelaw02_pick.calls a0 36524 t228 _ A3.out).mono ?_); rintro e w' ⟨rfl, ⟨nd, rfl⟩⟩; refine ⟨_, rfl, ?_⟩) | ((with_reducible refine gate_callee (f := 11) rfl ?_); refine goesL_ (some 20) rfl rfl Tryd.func11 (by kernel_rfl) rfl #[.int .i64 t228] rfl (by (try simp only [List.map_toArray, List.map_cons, List.map_nil]); first | done | rfl | (simp only [List.length_drop, List.length_take]; rfl)) ?_; (with_reducible refine (calendar_Date.calls t228 t229 t230 t231 _ A4.out (TabBefore.below hTBefore.out (by repeat (first | exact HB.out | exact Below.refl _ _ | apply below_alloc | apply pw_below_drewN | apply below_drew1 | apply below_drew)))).mono ?_); rintro e w10 ⟨rfl, hb⟩; refine ⟨_, rfl, ?_⟩; have n0_ := Aside0.mk (below_step (by repeat (first | (with_reducible first | exact HB.out | apply below_alloc | apply pw_below_drewN | apply below_drew1) | exact HB.out)) hb); clear HB; have HB := n0_; clear n0_; (try clear hb); (try clear hb2); (try clear hk); (try clear hi)) | ((with_reducible refine gate_callee (f := 11) rfl ?_); refine goesL_ (some 27) rfl rfl Tryd.func11 (by kernel_rfl) rfl #[.int .i64 (wrap64 (t228 + 1))] rfl (by (try simp only [List.map_toArray, List.map_cons, List.map_nil]); first | done | rfl | (simp only [List.length_drop, List.length_take]; rfl)) ?_; (with_reducible refine (calendar_Date.calls (wrap64 (t228 + 1)) t232 t233 t234 _ A5.out (TabBefore.below hTBefore.out (by repeat (first | exact HB.out | exact Below.refl _ _ | apply below_alloc | apply pw_below_drewN | apply below_drew1 | apply below_drew)))).mono ?_); rintro e w11 ⟨rfl, hb⟩; refine ⟨_, rfl, ?_⟩; have n0_ := Aside0.mk (below_step (by repeat (first | (with_reducible first | exact HB.out | apply below_alloc | apply pw_below_drewN | apply below_drew1) | exact HB.out)) hb); clear HB; have HB := n0_; clear n0_; (try clear hb); (try clear hb2); (try clear hk); (try clear hi)) | ((with_reducible refine gate_callee (f := 15) rfl ?_); refine goesL_ (some 32) rfl rfl Tryd.func15 (by kernel_rfl) rfl #[.int .i64 t228] rfl (by (try simp only [List.map_toArray, List.map_cons, List.map_nil]); first | done | rfl | (simp only [List.length_drop, List.length_take]; rfl)) ?_; (with_reducible refine (calendar_Weekday.calls t228 t235 _ A6.out).mono ?_); rintro e w' ⟨rfl, ⟨nd, rfl⟩⟩; refine ⟨_, rfl, ?_⟩) | ((with_reducible refine gate_callee (f := 15) rfl ?_); refine goesL_ (some 35) rfl rfl Tryd.func15 (by kernel_rfl) rfl #[.int .i64 (wrap64 (t228 + 1))] rfl (by (try simp only [List.map_toArray, List.map_cons, List.map_nil]); first | done | rfl | (simp only [List.length_drop, List.length_take]; rfl)) ?_; (with_reducible refine (calendar_Weekday.calls (wrap64 (t228 + 1)) t236 _ A7.out).mono ?_); rintro e w' ⟨rfl, ⟨nd, rfl⟩⟩; refine ⟨_, rfl, ?_⟩))
  (try simp only [Act.put, List.setIfInBounds_toArray, List.set_cons_zero, List.set_cons_succ])
  go_cut [13] (fun v13 wc => ∃ (kq : Nat) (x13_7 : Bool), v13 = .bool x13_7 ∧ Aside0 (wageofficelaw02_CalendarNext.j0 kq t227 t228 t229 t230 t231 t232 t233 t234 t235 t236 x13_7 = some r) ∧ Aside0 (kq ≤ k) ∧ Aside0 (Below w.heap.size w wc))
  case first =>
    have H := HC8.out
    clear HC8
    by_cases c12 : t232 = t229
    · rw [if_pos c12] at H
      have c12b0 : (t232 == t229) = true := beq_iff_eq.mpr c12
      have c12b1 : (t232 != t229) = false := bne_eq_false_iff_eq.mpr c12
      clear c12
      (first | rw [c12b0] | (simp only [i64_w, i32_w]; rw [c12b0]) | skip)
      by_cases c13 : t233 = t230
      · rw [if_pos c13] at H
        have c13b0 : (t233 == t230) = true := beq_iff_eq.mpr c13
        have c13b1 : (t233 != t230) = false := bne_eq_false_iff_eq.mpr c13
        clear c13
        by_cases c14 : t234 = (wrap64 (t231 + 1))
        · rw [if_pos c14] at H
          have c14b0 : (t234 == (wrap64 (t231 + 1))) = true := beq_iff_eq.mpr c14
          have c14b1 : (t234 != (wrap64 (t231 + 1))) = false := bne_eq_false_iff_eq.mpr c14
          clear c14
          replace H := Option.bind_eq_some_iff.mp H
          obtain ⟨t237, A150, H⟩ := H
          replace H : ((calendar_Month.f t228).bind fun t238 => (wageofficelaw02_CalendarNext.j0 k t227 t228 t229 t230 t231 t232 t233 t234 t235 t236 (t237 == t238))) = some r := H
          have A15 := Aside0.mk A150
          clear A150
          replace H := Option.bind_eq_some_iff.mp H
          obtain ⟨t238, A160, H⟩ := H
          replace H : (wageofficelaw02_CalendarNext.j0 k t227 t228 t229 t230 t231 t232 t233 t234 t235 t236 (t237 == t238)) = some r := H
          have A16 := Aside0.mk A160
          clear A160
          have H' := Aside0.mk H
          clear H
          go_wp2_with (first | (go_at_call 17; (with_reducible refine (calendar_Month.calls (wrap64 (t228 + 1)) t237 _ A15.out (TabBefore.below hTBefore.out (by repeat (first | exact HB.out | exact Below.refl _ _ | apply below_alloc | apply pw_below_drewN | apply below_drew1 | apply below_drew)))).mono ?_); rintro e w17 ⟨rfl, hb⟩; have n0_ := Aside0.mk (below_step (by repeat (first | (with_reducible first | exact HB.out | apply below_alloc | apply pw_below_drewN | apply below_drew1) | exact HB.out)) hb); clear HB; have HB := n0_; clear n0_; (try clear hb); (try clear hb2); (try clear hk); (try clear hi)) | (go_at_call 17; (with_reducible refine (calendar_Month.calls t228 t238 _ A16.out (TabBefore.below hTBefore.out (by repeat (first | exact HB.out | exact Below.refl _ _ | apply below_alloc | apply pw_below_drewN | apply below_drew1 | apply below_drew)))).mono ?_); rintro e w18 ⟨rfl, hb⟩; have n0_ := Aside0.mk (below_step (by repeat (first | (with_reducible first | exact HB.out | apply below_alloc | apply pw_below_drewN | apply below_drew1) | exact HB.out)) hb); clear HB; have HB := n0_; clear n0_; (try clear hb); (try clear hb2); (try clear hk); (try clear hi)))
          go_meet
          case rel => exact ⟨_, ((t237 == t238)), (by first | rfl | (simp; done) | (simp [*]; done)), H', ⟨by first | omega | exact Nat.le_refl _⟩, ⟨by repeat (first | (with_reducible first | exact HB.out | apply below_alloc | apply pw_below_drewN | apply below_drew1) | exact HB.out)⟩⟩
        · rw [if_neg c14] at H
          have c14b0 : (t234 == (wrap64 (t231 + 1))) = false := beq_eq_false_iff_ne.mpr c14
          have c14b1 : (t234 != (wrap64 (t231 + 1))) = true := bne_iff_ne.mpr c14
          have H' := Aside0.mk H
          clear H
          go_wp2
          go_meet
          case rel => exact ⟨_, (false), (by first | rfl | (simp; done) | (simp [*]; done)), H', ⟨by first | omega | exact Nat.le_refl _⟩, ⟨by repeat (first | (with_reducible first | exact HB.out | apply below_alloc | apply pw_below_drewN | apply below_drew1) | exact HB.out)⟩⟩
      · rw [if_neg c13] at H
        have c13b0 : (t233 == t230) = false := beq_eq_false_iff_ne.mpr c13
        have c13b1 : (t233 != t230) = true := bne_iff_ne.mpr c13
        have H' := Aside0.mk H
        clear H
        go_wp2
        go_meet
        case rel => exact ⟨_, (false), (by first | rfl | (simp; done) | (simp [*]; done)), H', ⟨by first | omega | exact Nat.le_refl _⟩, ⟨by repeat (first | (with_reducible first | exact HB.out | apply below_alloc | apply pw_below_drewN | apply below_drew1) | exact HB.out)⟩⟩
    · rw [if_neg c12] at H
      have c12b0 : (t232 == t229) = false := beq_eq_false_iff_ne.mpr c12
      have c12b1 : (t232 != t229) = true := bne_iff_ne.mpr c12
      (first | rw [c12b0] | (simp only [i64_w, i32_w]; rw [c12b0]) | skip)
      have H' := Aside0.mk H
      clear H
      go_wp2
      go_meet
      case rel => exact ⟨_, (false), (by first | rfl | (simp; done) | (simp [*]; done)), H', ⟨by first | omega | exact Nat.le_refl _⟩, ⟨by repeat (first | (with_reducible first | exact HB.out | apply below_alloc | apply pw_below_drewN | apply below_drew1) | exact HB.out)⟩⟩
  case rest =>
    clear HC8
    try clear c1
    try clear p2
    try clear c5
    try clear p6
    try clear c9
    try clear c10
    try clear c11
    try clear c12
    try clear c12b0
    try clear c12b1
    try clear c13
    try clear c13b0
    try clear c13b1
    try clear c14
    try clear c14b0
    try clear c14b1
    try clear c15
    obtain ⟨kq, x13_7, rfl, HA, HJ7, HB⟩ := hcut
    cases kq with
    | zero => exact absurd HA.out (by simp [wageofficelaw02_CalendarNext.j0])
    | succ kj7 =>
      have H := HA.out
      clear HA
      simp only [wageofficelaw02_CalendarNext.j0] at H
      by_cases c19 : t234 = 1
      · rw [if_pos c19] at H
        have c19b0 : (t234 == 1) = true := beq_iff_eq.mpr c19
        have c19b1 : (t234 != 1) = false := bne_eq_false_iff_eq.mpr c19
        clear c19
        by_cases c20 : t232 = t229
        · rw [if_pos c20] at H
          have c20b0 : (t232 == t229) = true := beq_iff_eq.mpr c20
          have c20b1 : (t232 != t229) = false := bne_eq_false_iff_eq.mpr c20
          clear c20
          by_cases c21 : t233 = (wrap64 (t230 + 1))
          · rw [if_pos c21] at H
            have c21b0 : (t233 == (wrap64 (t230 + 1))) = true := beq_iff_eq.mpr c21
            have c21b1 : (t233 != (wrap64 (t230 + 1))) = false := bne_eq_false_iff_eq.mpr c21
            clear c21
            replace H := Option.bind_eq_some_iff.mp H
            obtain ⟨t239, A220, H⟩ := H
            replace H : ((calendar_Month.f t228).bind fun t240 => (if t239 = (wrap64 (t240 + 1)) then ((calendar_Month.f t228).bind fun t241 => ((calendar_Length.f t241).bind fun t242 => (if t227 = true then (if x13_7 = true then (if t235 ≥ 1 then (if t235 ≤ 7 then (some (t236 == (wrap64 ((Int.tmod t235 7) + 1)))) else (some false)) else (some false)) else (if t231 = t242 then (if t235 ≥ 1 then (if t235 ≤ 7 then (some (t236 == (wrap64 ((Int.tmod t235 7) + 1)))) else (some false)) else (some false)) else (some false))) else (some false)))) else (if t227 = true then (if x13_7 = true then (if t235 ≥ 1 then (if t235 ≤ 7 then (some (t236 == (wrap64 ((Int.tmod t235 7) + 1)))) else (some false)) else (some false)) else (some false)) else (some false)))) = some r := H
            have A22 := Aside0.mk A220
            clear A220
            replace H := Option.bind_eq_some_iff.mp H
            obtain ⟨t240, A230, H⟩ := H
            replace H : (if t239 = (wrap64 (t240 + 1)) then ((calendar_Month.f t228).bind fun t241 => ((calendar_Length.f t241).bind fun t242 => (if t227 = true then (if x13_7 = true then (if t235 ≥ 1 then (if t235 ≤ 7 then (some (t236 == (wrap64 ((Int.tmod t235 7) + 1)))) else (some false)) else (some false)) else (if t231 = t242 then (if t235 ≥ 1 then (if t235 ≤ 7 then (some (t236 == (wrap64 ((Int.tmod t235 7) + 1)))) else (some false)) else (some false)) else (some false))) else (some false)))) else (if t227 = true then (if x13_7 = true then (if t235 ≥ 1 then (if t235 ≤ 7 then (some (t236 == (wrap64 ((Int.tmod t235 7) + 1)))) else (some false)) else (some false)) else (some false)) else (some false))) = some r := H
            have A23 := Aside0.mk A230
            clear A230
            by_cases c24 : t239 = (wrap64 (t240 + 1))
            · rw [if_pos c24] at H
              have c24b0 : (t239 == (wrap64 (t240 + 1))) = true := beq_iff_eq.mpr c24
              have c24b1 : (t239 != (wrap64 (t240 + 1))) = false := bne_eq_false_iff_eq.mpr c24
              clear c24
              replace H := Option.bind_eq_some_iff.mp H
              obtain ⟨t241, A250, H⟩ := H
              replace H : ((calendar_Length.f t241).bind fun t242 => (if t227 = true then (if x13_7 = true then (if t235 ≥ 1 then (if t235 ≤ 7 then (some (t236 == (wrap64 ((Int.tmod t235 7) + 1)))) else (some false)) else (some false)) else (if t231 = t242 then (if t235 ≥ 1 then (if t235 ≤ 7 then (some (t236 == (wrap64 ((Int.tmod t235 7) + 1)))) else (some false)) else (some false)) else (some false))) else (some false))) = some r := H
              have A25 := Aside0.mk A250
              clear A250
              obtain rfl : t240 = t241 := Option.some.inj (A23.out.symm.trans A25.out)
              replace H := Option.bind_eq_some_iff.mp H
              obtain ⟨t242, A260, H⟩ := H
              replace H : (if t227 = true then (if x13_7 = true then (if t235 ≥ 1 then (if t235 ≤ 7 then (some (t236 == (wrap64 ((Int.tmod t235 7) + 1)))) else (some false)) else (some false)) else (if t231 = t242 then (if t235 ≥ 1 then (if t235 ≤ 7 then (some (t236 == (wrap64 ((Int.tmod t235 7) + 1)))) else (some false)) else (some false)) else (some false))) else (some false)) = some r := H
              have A26 := Aside0.mk A260
              clear A260
              by_cases c27 : t227 = true
              · subst c27
                have H1 : (if x13_7 = true then (if t235 ≥ 1 then (if t235 ≤ 7 then (some (t236 == (wrap64 ((Int.tmod t235 7) + 1)))) else (some false)) else (some false)) else (if t231 = t242 then (if t235 ≥ 1 then (if t235 ≤ 7 then (some (t236 == (wrap64 ((Int.tmod t235 7) + 1)))) else (some false)) else (some false)) else (some false))) = some r := by rw [if_pos rfl] at H; exact H
                clear H
                have H := H1
                clear H1
                by_cases c28 : x13_7 = true
                · subst c28
                  have H1 : (if t235 ≥ 1 then (if t235 ≤ 7 then (some (t236 == (wrap64 ((Int.tmod t235 7) + 1)))) else (some false)) else (some false)) = some r := by rw [if_pos rfl] at H; exact H
                  clear H
                  have H := H1
                  clear H1
                  by_cases c29 : t235 ≥ 1
                  · rw [if_pos c29] at H
                    have c29b0 : decide (1 ≤ t235) = true := decide_eq_true c29
                    clear c29
                    by_cases c30 : t235 ≤ 7
                    · rw [if_pos c30] at H
                      have c30b0 : decide (t235 ≤ 7) = true := decide_eq_true c30
                      clear c30
                      obtain rfl := Option.some.inj H
                      go_wp2_with (first | (go_at_call 17; (with_reducible refine (calendar_Month.calls (wrap64 (t228 + 1)) t239 _ A22.out (TabBefore.below hTBefore.out (by repeat (first | exact HB.out | exact Below.refl _ _ | apply below_alloc | apply pw_below_drewN | apply below_drew1 | apply below_drew)))).mono ?_); rintro e w31 ⟨rfl, hb⟩; have n0_ := Aside0.mk (below_step (by repeat (first | (with_reducible first | exact HB.out | apply below_alloc | apply pw_below_drewN | apply below_drew1) | exact HB.out)) hb); clear HB; have HB := n0_; clear n0_; (try clear hb); (try clear hb2); (try clear hk); (try clear hi)) | (go_at_call 17; (with_reducible refine (calendar_Month.calls t228 t240 _ A23.out (TabBefore.below hTBefore.out (by repeat (first | exact HB.out | exact Below.refl _ _ | apply below_alloc | apply pw_below_drewN | apply below_drew1 | apply below_drew)))).mono ?_); rintro e w32 ⟨rfl, hb⟩; have n0_ := Aside0.mk (below_step (by repeat (first | (with_reducible first | exact HB.out | apply below_alloc | apply pw_below_drewN | apply below_drew1) | exact HB.out)) hb); clear HB; have HB := n0_; clear n0_; (try clear hb); (try clear hb2); (try clear hk); (try clear hi)) | (go_at_call 17; (with_reducible refine (calendar_Month.calls t228 t240 _ A25.out (TabBefore.below hTBefore.out (by repeat (first | exact HB.out | exact Below.refl _ _ | apply below_alloc | apply pw_below_drewN | apply below_drew1 | apply below_drew)))).mono ?_); rintro e w33 ⟨rfl, hb⟩; have n0_ := Aside0.mk (below_step (by repeat (first | (with_reducible first | exact HB.out | apply below_alloc | apply pw_below_drewN | apply below_drew1) | exact HB.out)) hb); clear HB; have HB := n0_; clear n0_; (try clear hb); (try clear hb2); (try clear hk); (try clear hi)) | (go_at_call 23; (with_reducible refine (calendar_Length.calls t240 t242 _ A26.out (TabBefore.below hTBefore.out (by repeat (first | exact HB.out | exact Below.refl _ _ | apply below_alloc | apply pw_below_drewN | apply below_drew1 | apply below_drew)))).mono ?_); rintro e w34 ⟨rfl, hb⟩; have n0_ := Aside0.mk (below_step (by repeat (first | (with_reducible first | exact HB.out | apply below_alloc | apply pw_below_drewN | apply below_drew1) | exact HB.out)) hb); clear HB; have HB := n0_; clear n0_; (try clear hb); (try clear hb2); (try clear hk); (try clear hi)))
                      go_ret
                      exact ⟨by first | rfl | (simp [errW_none, errW_some] <;> rfl) | (simp [*, errW_none, errW_some] <;> rfl), by repeat (first | (with_reducible first | exact HB.out | apply below_alloc | apply pw_below_drewN | apply below_drew1) | exact HB.out)⟩
                    · rw [if_neg c30] at H
                      have c30b0 : decide (t235 ≤ 7) = false := decide_eq_false c30
                      clear c30
                      obtain rfl := Option.some.inj H
                      go_wp2_with (first | (go_at_call 17; (with_reducible refine (calendar_Month.calls (wrap64 (t228 + 1)) t239 _ A22.out (TabBefore.below hTBefore.out (by repeat (first | exact HB.out | exact Below.refl _ _ | apply below_alloc | apply pw_below_drewN | apply below_drew1 | apply below_drew)))).mono ?_); rintro e w35 ⟨rfl, hb⟩; have n0_ := Aside0.mk (below_step (by repeat (first | (with_reducible first | exact HB.out | apply below_alloc | apply pw_below_drewN | apply below_drew1) | exact HB.out)) hb); clear HB; have HB := n0_; clear n0_; (try clear hb); (try clear hb2); (try clear hk); (try clear hi)) | (go_at_call 17; (with_reducible refine (calendar_Month.calls t228 t240 _ A23.out (TabBefore.below hTBefore.out (by repeat (first | exact HB.out | exact Below.refl _ _ | apply below_alloc | apply pw_below_drewN | apply below_drew1 | apply below_drew)))).mono ?_); rintro e w36 ⟨rfl, hb⟩; have n0_ := Aside0.mk (below_step (by repeat (first | (with_reducible first | exact HB.out | apply below_alloc | apply pw_below_drewN | apply below_drew1) | exact HB.out)) hb); clear HB; have HB := n0_; clear n0_; (try clear hb); (try clear hb2); (try clear hk); (try clear hi)) | (go_at_call 17; (with_reducible refine (calendar_Month.calls t228 t240 _ A25.out (TabBefore.below hTBefore.out (by repeat (first | exact HB.out | exact Below.refl _ _ | apply below_alloc | apply pw_below_drewN | apply below_drew1 | apply below_drew)))).mono ?_); rintro e w37 ⟨rfl, hb⟩; have n0_ := Aside0.mk (below_step (by repeat (first | (with_reducible first | exact HB.out | apply below_alloc | apply pw_below_drewN | apply below_drew1) | exact HB.out)) hb); clear HB; have HB := n0_; clear n0_; (try clear hb); (try clear hb2); (try clear hk); (try clear hi)) | (go_at_call 23; (with_reducible refine (calendar_Length.calls t240 t242 _ A26.out (TabBefore.below hTBefore.out (by repeat (first | exact HB.out | exact Below.refl _ _ | apply below_alloc | apply pw_below_drewN | apply below_drew1 | apply below_drew)))).mono ?_); rintro e w38 ⟨rfl, hb⟩; have n0_ := Aside0.mk (below_step (by repeat (first | (with_reducible first | exact HB.out | apply below_alloc | apply pw_below_drewN | apply below_drew1) | exact HB.out)) hb); clear HB; have HB := n0_; clear n0_; (try clear hb); (try clear hb2); (try clear hk); (try clear hi)))
                      go_ret
                      exact ⟨by first | rfl | (simp [errW_none, errW_some] <;> rfl) | (simp [*, errW_none, errW_some] <;> rfl), by repeat (first | (with_reducible first | exact HB.out | apply below_alloc | apply pw_below_drewN | apply below_drew1) | exact HB.out)⟩
                  · rw [if_neg c29] at H
                    have c29b0 : decide (1 ≤ t235) = false := decide_eq_false c29
                    clear c29
                    obtain rfl := Option.some.inj H
                    go_wp2_with (first | (go_at_call 17; (with_reducible refine (calendar_Month.calls (wrap64 (t228 + 1)) t239 _ A22.out (TabBefore.below hTBefore.out (by repeat (first | exact HB.out | exact Below.refl _ _ | apply below_alloc | apply pw_below_drewN | apply below_drew1 | apply below_drew)))).mono ?_); rintro e w39 ⟨rfl, hb⟩; have n0_ := Aside0.mk (below_step (by repeat (first | (with_reducible first | exact HB.out | apply below_alloc | apply pw_below_drewN | apply below_drew1) | exact HB.out)) hb); clear HB; have HB := n0_; clear n0_; (try clear hb); (try clear hb2); (try clear hk); (try clear hi)) | (go_at_call 17; (with_reducible refine (calendar_Month.calls t228 t240 _ A23.out (TabBefore.below hTBefore.out (by repeat (first | exact HB.out | exact Below.refl _ _ | apply below_alloc | apply pw_below_drewN | apply below_drew1 | apply below_drew)))).mono ?_); rintro e w40 ⟨rfl, hb⟩; have n0_ := Aside0.mk (below_step (by repeat (first | (with_reducible first | exact HB.out | apply below_alloc | apply pw_below_drewN | apply below_drew1) | exact HB.out)) hb); clear HB; have HB := n0_; clear n0_; (try clear hb); (try clear hb2); (try clear hk); (try clear hi)) | (go_at_call 17; (with_reducible refine (calendar_Month.calls t228 t240 _ A25.out (TabBefore.below hTBefore.out (by repeat (first | exact HB.out | exact Below.refl _ _ | apply below_alloc | apply pw_below_drewN | apply below_drew1 | apply below_drew)))).mono ?_); rintro e w41 ⟨rfl, hb⟩; have n0_ := Aside0.mk (below_step (by repeat (first | (with_reducible first | exact HB.out | apply below_alloc | apply pw_below_drewN | apply below_drew1) | exact HB.out)) hb); clear HB; have HB := n0_; clear n0_; (try clear hb); (try clear hb2); (try clear hk); (try clear hi)) | (go_at_call 23; (with_reducible refine (calendar_Length.calls t240 t242 _ A26.out (TabBefore.below hTBefore.out (by repeat (first | exact HB.out | exact Below.refl _ _ | apply below_alloc | apply pw_below_drewN | apply below_drew1 | apply below_drew)))).mono ?_); rintro e w42 ⟨rfl, hb⟩; have n0_ := Aside0.mk (below_step (by repeat (first | (with_reducible first | exact HB.out | apply below_alloc | apply pw_below_drewN | apply below_drew1) | exact HB.out)) hb); clear HB; have HB := n0_; clear n0_; (try clear hb); (try clear hb2); (try clear hk); (try clear hi)))
                    go_ret
                    exact ⟨by first | rfl | (simp [errW_none, errW_some] <;> rfl) | (simp [*, errW_none, errW_some] <;> rfl), by repeat (first | (with_reducible first | exact HB.out | apply below_alloc | apply pw_below_drewN | apply below_drew1) | exact HB.out)⟩
                · replace c28 := Bool.eq_false_iff.mpr c28
                  subst c28
                  have H1 : (if t231 = t242 then (if t235 ≥ 1 then (if t235 ≤ 7 then (some (t236 == (wrap64 ((Int.tmod t235 7) + 1)))) else (some false)) else (some false)) else (some false)) = some r := by rw [if_neg (show ¬ (false = true) by decide)] at H; exact H
                  clear H
                  have H := H1
                  clear H1
                  by_cases c43 : t231 = t242
                  · rw [if_pos c43] at H
                    have c43b0 : (t231 == t242) = true := beq_iff_eq.mpr c43
                    have c43b1 : (t231 != t242) = false := bne_eq_false_iff_eq.mpr c43
                    clear c43
                    by_cases c44 : t235 ≥ 1
                    · rw [if_pos c44] at H
                      have c44b0 : decide (1 ≤ t235) = true := decide_eq_true c44
                      clear c44
                      by_cases c45 : t235 ≤ 7
                      · rw [if_pos c45] at H
                        have c45b0 : decide (t235 ≤ 7) = true := decide_eq_true c45
                        clear c45
                        obtain rfl := Option.some.inj H
                        go_wp2_with (first | (go_at_call 17; (with_reducible refine (calendar_Month.calls (wrap64 (t228 + 1)) t239 _ A22.out (TabBefore.below hTBefore.out (by repeat (first | exact HB.out | exact Below.refl _ _ | apply below_alloc | apply pw_below_drewN | apply below_drew1 | apply below_drew)))).mono ?_); rintro e w46 ⟨rfl, hb⟩; have n0_ := Aside0.mk (below_step (by repeat (first | (with_reducible first | exact HB.out | apply below_alloc | apply pw_below_drewN | apply below_drew1) | exact HB.out)) hb); clear HB; have HB := n0_; clear n0_; (try clear hb); (try clear hb2); (try clear hk); (try clear hi)) | (go_at_call 17; (with_reducible refine (calendar_Month.calls t228 t240 _ A23.out (TabBefore.below hTBefore.out (by repeat (first | exact HB.out | exact Below.refl _ _ | apply below_alloc | apply pw_below_drewN | apply below_drew1 | apply below_drew)))).mono ?_); rintro e w47 ⟨rfl, hb⟩; have n0_ := Aside0.mk (below_step (by repeat (first | (with_reducible first | exact HB.out | apply below_alloc | apply pw_below_drewN | apply below_drew1) | exact HB.out)) hb); clear HB; have HB := n0_; clear n0_; (try clear hb); (try clear hb2); (try clear hk); (try clear hi)) | (go_at_call 17; (with_reducible refine (calendar_Month.calls t228 t240 _ A25.out (TabBefore.below hTBefore.out (by repeat (first | exact HB.out | exact Below.refl _ _ | apply below_alloc | apply pw_below_drewN | apply below_drew1 | apply below_drew)))).mono ?_); rintro e w48 ⟨rfl, hb⟩; have n0_ := Aside0.mk (below_step (by repeat (first | (with_reducible first | exact HB.out | apply below_alloc | apply pw_below_drewN | apply below_drew1) | exact HB.out)) hb); clear HB; have HB := n0_; clear n0_; (try clear hb); (try clear hb2); (try clear hk); (try clear hi)) | (go_at_call 23; (with_reducible refine (calendar_Length.calls t240 t242 _ A26.out (TabBefore.below hTBefore.out (by repeat (first | exact HB.out | exact Below.refl _ _ | apply below_alloc | apply pw_below_drewN | apply below_drew1 | apply below_drew)))).mono ?_); rintro e w49 ⟨rfl, hb⟩; have n0_ := Aside0.mk (below_step (by repeat (first | (with_reducible first | exact HB.out | apply below_alloc | apply pw_below_drewN | apply below_drew1) | exact HB.out)) hb); clear HB; have HB := n0_; clear n0_; (try clear hb); (try clear hb2); (try clear hk); (try clear hi)))
                        go_ret
                        exact ⟨by first | rfl | (simp [errW_none, errW_some] <;> rfl) | (simp [*, errW_none, errW_some] <;> rfl), by repeat (first | (with_reducible first | exact HB.out | apply below_alloc | apply pw_below_drewN | apply below_drew1) | exact HB.out)⟩
                      · rw [if_neg c45] at H
                        have c45b0 : decide (t235 ≤ 7) = false := decide_eq_false c45
                        clear c45
                        obtain rfl := Option.some.inj H
                        go_wp2_with (first | (go_at_call 17; (with_reducible refine (calendar_Month.calls (wrap64 (t228 + 1)) t239 _ A22.out (TabBefore.below hTBefore.out (by repeat (first | exact HB.out | exact Below.refl _ _ | apply below_alloc | apply pw_below_drewN | apply below_drew1 | apply below_drew)))).mono ?_); rintro e w50 ⟨rfl, hb⟩; have n0_ := Aside0.mk (below_step (by repeat (first | (with_reducible first | exact HB.out | apply below_alloc | apply pw_below_drewN | apply below_drew1) | exact HB.out)) hb); clear HB; have HB := n0_; clear n0_; (try clear hb); (try clear hb2); (try clear hk); (try clear hi)) | (go_at_call 17; (with_reducible refine (calendar_Month.calls t228 t240 _ A23.out (TabBefore.below hTBefore.out (by repeat (first | exact HB.out | exact Below.refl _ _ | apply below_alloc | apply pw_below_drewN | apply below_drew1 | apply below_drew)))).mono ?_); rintro e w51 ⟨rfl, hb⟩; have n0_ := Aside0.mk (below_step (by repeat (first | (with_reducible first | exact HB.out | apply below_alloc | apply pw_below_drewN | apply below_drew1) | exact HB.out)) hb); clear HB; have HB := n0_; clear n0_; (try clear hb); (try clear hb2); (try clear hk); (try clear hi)) | (go_at_call 17; (with_reducible refine (calendar_Month.calls t228 t240 _ A25.out (TabBefore.below hTBefore.out (by repeat (first | exact HB.out | exact Below.refl _ _ | apply below_alloc | apply pw_below_drewN | apply below_drew1 | apply below_drew)))).mono ?_); rintro e w52 ⟨rfl, hb⟩; have n0_ := Aside0.mk (below_step (by repeat (first | (with_reducible first | exact HB.out | apply below_alloc | apply pw_below_drewN | apply below_drew1) | exact HB.out)) hb); clear HB; have HB := n0_; clear n0_; (try clear hb); (try clear hb2); (try clear hk); (try clear hi)) | (go_at_call 23; (with_reducible refine (calendar_Length.calls t240 t242 _ A26.out (TabBefore.below hTBefore.out (by repeat (first | exact HB.out | exact Below.refl _ _ | apply below_alloc | apply pw_below_drewN | apply below_drew1 | apply below_drew)))).mono ?_); rintro e w53 ⟨rfl, hb⟩; have n0_ := Aside0.mk (below_step (by repeat (first | (with_reducible first | exact HB.out | apply below_alloc | apply pw_below_drewN | apply below_drew1) | exact HB.out)) hb); clear HB; have HB := n0_; clear n0_; (try clear hb); (try clear hb2); (try clear hk); (try clear hi)))
                        go_ret
                        exact ⟨by first | rfl | (simp [errW_none, errW_some] <;> rfl) | (simp [*, errW_none, errW_some] <;> rfl), by repeat (first | (with_reducible first | exact HB.out | apply below_alloc | apply pw_below_drewN | apply below_drew1) | exact HB.out)⟩
                    · rw [if_neg c44] at H
                      have c44b0 : decide (1 ≤ t235) = false := decide_eq_false c44
                      clear c44
                      obtain rfl := Option.some.inj H
                      go_wp2_with (first | (go_at_call 17; (with_reducible refine (calendar_Month.calls (wrap64 (t228 + 1)) t239 _ A22.out (TabBefore.below hTBefore.out (by repeat (first | exact HB.out | exact Below.refl _ _ | apply below_alloc | apply pw_below_drewN | apply below_drew1 | apply below_drew)))).mono ?_); rintro e w54 ⟨rfl, hb⟩; have n0_ := Aside0.mk (below_step (by repeat (first | (with_reducible first | exact HB.out | apply below_alloc | apply pw_below_drewN | apply below_drew1) | exact HB.out)) hb); clear HB; have HB := n0_; clear n0_; (try clear hb); (try clear hb2); (try clear hk); (try clear hi)) | (go_at_call 17; (with_reducible refine (calendar_Month.calls t228 t240 _ A23.out (TabBefore.below hTBefore.out (by repeat (first | exact HB.out | exact Below.refl _ _ | apply below_alloc | apply pw_below_drewN | apply below_drew1 | apply below_drew)))).mono ?_); rintro e w55 ⟨rfl, hb⟩; have n0_ := Aside0.mk (below_step (by repeat (first | (with_reducible first | exact HB.out | apply below_alloc | apply pw_below_drewN | apply below_drew1) | exact HB.out)) hb); clear HB; have HB := n0_; clear n0_; (try clear hb); (try clear hb2); (try clear hk); (try clear hi)) | (go_at_call 17; (with_reducible refine (calendar_Month.calls t228 t240 _ A25.out (TabBefore.below hTBefore.out (by repeat (first | exact HB.out | exact Below.refl _ _ | apply below_alloc | apply pw_below_drewN | apply below_drew1 | apply below_drew)))).mono ?_); rintro e w56 ⟨rfl, hb⟩; have n0_ := Aside0.mk (below_step (by repeat (first | (with_reducible first | exact HB.out | apply below_alloc | apply pw_below_drewN | apply below_drew1) | exact HB.out)) hb); clear HB; have HB := n0_; clear n0_; (try clear hb); (try clear hb2); (try clear hk); (try clear hi)) | (go_at_call 23; (with_reducible refine (calendar_Length.calls t240 t242 _ A26.out (TabBefore.below hTBefore.out (by repeat (first | exact HB.out | exact Below.refl _ _ | apply below_alloc | apply pw_below_drewN | apply below_drew1 | apply below_drew)))).mono ?_); rintro e w57 ⟨rfl, hb⟩; have n0_ := Aside0.mk (below_step (by repeat (first | (with_reducible first | exact HB.out | apply below_alloc | apply pw_below_drewN | apply below_drew1) | exact HB.out)) hb); clear HB; have HB := n0_; clear n0_; (try clear hb); (try clear hb2); (try clear hk); (try clear hi)))
                      go_ret
                      exact ⟨by first | rfl | (simp [errW_none, errW_some] <;> rfl) | (simp [*, errW_none, errW_some] <;> rfl), by repeat (first | (with_reducible first | exact HB.out | apply below_alloc | apply pw_below_drewN | apply below_drew1) | exact HB.out)⟩
                  · rw [if_neg c43] at H
                    have c43b0 : (t231 == t242) = false := beq_eq_false_iff_ne.mpr c43
                    have c43b1 : (t231 != t242) = true := bne_iff_ne.mpr c43
                    obtain rfl := Option.some.inj H
                    go_wp2_with (first | (go_at_call 17; (with_reducible refine (calendar_Month.calls (wrap64 (t228 + 1)) t239 _ A22.out (TabBefore.below hTBefore.out (by repeat (first | exact HB.out | exact Below.refl _ _ | apply below_alloc | apply pw_below_drewN | apply below_drew1 | apply below_drew)))).mono ?_); rintro e w58 ⟨rfl, hb⟩; have n0_ := Aside0.mk (below_step (by repeat (first | (with_reducible first | exact HB.out | apply below_alloc | apply pw_below_drewN | apply below_drew1) | exact HB.out)) hb); clear HB; have HB := n0_; clear n0_; (try clear hb); (try clear hb2); (try clear hk); (try clear hi)) | (go_at_call 17; (with_reducible refine (calendar_Month.calls t228 t240 _ A23.out (TabBefore.below hTBefore.out (by repeat (first | exact HB.out | exact Below.refl _ _ | apply below_alloc | apply pw_below_drewN | apply below_drew1 | apply below_drew)))).mono ?_); rintro e w59 ⟨rfl, hb⟩; have n0_ := Aside0.mk (below_step (by repeat (first | (with_reducible first | exact HB.out | apply below_alloc | apply pw_below_drewN | apply below_drew1) | exact HB.out)) hb); clear HB; have HB := n0_; clear n0_; (try clear hb); (try clear hb2); (try clear hk); (try clear hi)) | (go_at_call 17; (with_reducible refine (calendar_Month.calls t228 t240 _ A25.out (TabBefore.below hTBefore.out (by repeat (first | exact HB.out | exact Below.refl _ _ | apply below_alloc | apply pw_below_drewN | apply below_drew1 | apply below_drew)))).mono ?_); rintro e w60 ⟨rfl, hb⟩; have n0_ := Aside0.mk (below_step (by repeat (first | (with_reducible first | exact HB.out | apply below_alloc | apply pw_below_drewN | apply below_drew1) | exact HB.out)) hb); clear HB; have HB := n0_; clear n0_; (try clear hb); (try clear hb2); (try clear hk); (try clear hi)) | (go_at_call 23; (with_reducible refine (calendar_Length.calls t240 t242 _ A26.out (TabBefore.below hTBefore.out (by repeat (first | exact HB.out | exact Below.refl _ _ | apply below_alloc | apply pw_below_drewN | apply below_drew1 | apply below_drew)))).mono ?_); rintro e w61 ⟨rfl, hb⟩; have n0_ := Aside0.mk (below_step (by repeat (first | (with_reducible first | exact HB.out | apply below_alloc | apply pw_below_drewN | apply below_drew1) | exact HB.out)) hb); clear HB; have HB := n0_; clear n0_; (try clear hb); (try clear hb2); (try clear hk); (try clear hi)))
                    go_ret
                    exact ⟨by first | rfl | (simp [errW_none, errW_some] <;> rfl) | (simp [*, errW_none, errW_some] <;> rfl), by repeat (first | (with_reducible first | exact HB.out | apply below_alloc | apply pw_below_drewN | apply below_drew1) | exact HB.out)⟩
              · replace c27 := Bool.eq_false_iff.mpr c27
                subst c27
                have H1 : (some false) = some r := by rw [if_neg (show ¬ (false = true) by decide)] at H; exact H
                clear H
                have H := H1
                clear H1
                obtain rfl := Option.some.inj H
                go_wp2_with (first | (go_at_call 17; (with_reducible refine (calendar_Month.calls (wrap64 (t228 + 1)) t239 _ A22.out (TabBefore.below hTBefore.out (by repeat (first | exact HB.out | exact Below.refl _ _ | apply below_alloc | apply pw_below_drewN | apply below_drew1 | apply below_drew)))).mono ?_); rintro e w62 ⟨rfl, hb⟩; have n0_ := Aside0.mk (below_step (by repeat (first | (with_reducible first | exact HB.out | apply below_alloc | apply pw_below_drewN | apply below_drew1) | exact HB.out)) hb); clear HB; have HB := n0_; clear n0_; (try clear hb); (try clear hb2); (try clear hk); (try clear hi)) | (go_at_call 17; (with_reducible refine (calendar_Month.calls t228 t240 _ A23.out (TabBefore.below hTBefore.out (by repeat (first | exact HB.out | exact Below.refl _ _ | apply below_alloc | apply pw_below_drewN | apply below_drew1 | apply below_drew)))).mono ?_); rintro e w63 ⟨rfl, hb⟩; have n0_ := Aside0.mk (below_step (by repeat (first | (with_reducible first | exact HB.out | apply below_alloc | apply pw_below_drewN | apply below_drew1) | exact HB.out)) hb); clear HB; have HB := n0_; clear n0_; (try clear hb); (try clear hb2); (try clear hk); (try clear hi)) | (go_at_call 17; (with_reducible refine (calendar_Month.calls t228 t240 _ A25.out (TabBefore.below hTBefore.out (by repeat (first | exact HB.out | exact Below.refl _ _ | apply below_alloc | apply pw_below_drewN | apply below_drew1 | apply below_drew)))).mono ?_); rintro e w64 ⟨rfl, hb⟩; have n0_ := Aside0.mk (below_step (by repeat (first | (with_reducible first | exact HB.out | apply below_alloc | apply pw_below_drewN | apply below_drew1) | exact HB.out)) hb); clear HB; have HB := n0_; clear n0_; (try clear hb); (try clear hb2); (try clear hk); (try clear hi)) | (go_at_call 23; (with_reducible refine (calendar_Length.calls t240 t242 _ A26.out (TabBefore.below hTBefore.out (by repeat (first | exact HB.out | exact Below.refl _ _ | apply below_alloc | apply pw_below_drewN | apply below_drew1 | apply below_drew)))).mono ?_); rintro e w65 ⟨rfl, hb⟩; have n0_ := Aside0.mk (below_step (by repeat (first | (with_reducible first | exact HB.out | apply below_alloc | apply pw_below_drewN | apply below_drew1) | exact HB.out)) hb); clear HB; have HB := n0_; clear n0_; (try clear hb); (try clear hb2); (try clear hk); (try clear hi)))
                go_ret
                exact ⟨by first | rfl | (simp [errW_none, errW_some] <;> rfl) | (simp [*, errW_none, errW_some] <;> rfl), by repeat (first | (with_reducible first | exact HB.out | apply below_alloc | apply pw_below_drewN | apply below_drew1) | exact HB.out)⟩
            · rw [if_neg c24] at H
              have c24b0 : (t239 == (wrap64 (t240 + 1))) = false := beq_eq_false_iff_ne.mpr c24
              have c24b1 : (t239 != (wrap64 (t240 + 1))) = true := bne_iff_ne.mpr c24
              by_cases c66 : t227 = true
              · subst c66
                have H1 : (if x13_7 = true then (if t235 ≥ 1 then (if t235 ≤ 7 then (some (t236 == (wrap64 ((Int.tmod t235 7) + 1)))) else (some false)) else (some false)) else (some false)) = some r := by rw [if_pos rfl] at H; exact H
                clear H
                have H := H1
                clear H1
                by_cases c67 : x13_7 = true
                · subst c67
                  have H1 : (if t235 ≥ 1 then (if t235 ≤ 7 then (some (t236 == (wrap64 ((Int.tmod t235 7) + 1)))) else (some false)) else (some false)) = some r := by rw [if_pos rfl] at H; exact H
                  clear H
                  have H := H1
                  clear H1
                  by_cases c68 : t235 ≥ 1
                  · rw [if_pos c68] at H
                    have c68b0 : decide (1 ≤ t235) = true := decide_eq_true c68
                    clear c68
                    by_cases c69 : t235 ≤ 7
                    · rw [if_pos c69] at H
                      have c69b0 : decide (t235 ≤ 7) = true := decide_eq_true c69
                      clear c69
                      obtain rfl := Option.some.inj H
                      go_wp2_with (first | (go_at_call 17; (with_reducible refine (calendar_Month.calls (wrap64 (t228 + 1)) t239 _ A22.out (TabBefore.below hTBefore.out (by repeat (first | exact HB.out | exact Below.refl _ _ | apply below_alloc | apply pw_below_drewN | apply below_drew1 | apply below_drew)))).mono ?_); rintro e w70 ⟨rfl, hb⟩; have n0_ := Aside0.mk (below_step (by repeat (first | (with_reducible first | exact HB.out | apply below_alloc | apply pw_below_drewN | apply below_drew1) | exact HB.out)) hb); clear HB; have HB := n0_; clear n0_; (try clear hb); (try clear hb2); (try clear hk); (try clear hi)) | (go_at_call 17; (with_reducible refine (calendar_Month.calls t228 t240 _ A23.out (TabBefore.below hTBefore.out (by repeat (first | exact HB.out | exact Below.refl _ _ | apply below_alloc | apply pw_below_drewN | apply below_drew1 | apply below_drew)))).mono ?_); rintro e w71 ⟨rfl, hb⟩; have n0_ := Aside0.mk (below_step (by repeat (first | (with_reducible first | exact HB.out | apply below_alloc | apply pw_below_drewN | apply below_drew1) | exact HB.out)) hb); clear HB; have HB := n0_; clear n0_; (try clear hb); (try clear hb2); (try clear hk); (try clear hi)))
                      go_ret
                      exact ⟨by first | rfl | (simp [errW_none, errW_some] <;> rfl) | (simp [*, errW_none, errW_some] <;> rfl), by repeat (first | (with_reducible first | exact HB.out | apply below_alloc | apply pw_below_drewN | apply below_drew1) | exact HB.out)⟩
                    · rw [if_neg c69] at H
                      have c69b0 : decide (t235 ≤ 7) = false := decide_eq_false c69
                      clear c69
                      obtain rfl := Option.some.inj H
                      go_wp2_with (first | (go_at_call 17; (with_reducible refine (calendar_Month.calls (wrap64 (t228 + 1)) t239 _ A22.out (TabBefore.below hTBefore.out (by repeat (first | exact HB.out | exact Below.refl _ _ | apply below_alloc | apply pw_below_drewN | apply below_drew1 | apply below_drew)))).mono ?_); rintro e w72 ⟨rfl, hb⟩; have n0_ := Aside0.mk (below_step (by repeat (first | (with_reducible first | exact HB.out | apply below_alloc | apply pw_below_drewN | apply below_drew1) | exact HB.out)) hb); clear HB; have HB := n0_; clear n0_; (try clear hb); (try clear hb2); (try clear hk); (try clear hi)) | (go_at_call 17; (with_reducible refine (calendar_Month.calls t228 t240 _ A23.out (TabBefore.below hTBefore.out (by repeat (first | exact HB.out | exact Below.refl _ _ | apply below_alloc | apply pw_below_drewN | apply below_drew1 | apply below_drew)))).mono ?_); rintro e w73 ⟨rfl, hb⟩; have n0_ := Aside0.mk (below_step (by repeat (first | (with_reducible first | exact HB.out | apply below_alloc | apply pw_below_drewN | apply below_drew1) | exact HB.out)) hb); clear HB; have HB := n0_; clear n0_; (try clear hb); (try clear hb2); (try clear hk); (try clear hi)))
                      go_ret
                      exact ⟨by first | rfl | (simp [errW_none, errW_some] <;> rfl) | (simp [*, errW_none, errW_some] <;> rfl), by repeat (first | (with_reducible first | exact HB.out | apply below_alloc | apply pw_below_drewN | apply below_drew1) | exact HB.out)⟩
                  · rw [if_neg c68] at H
                    have c68b0 : decide (1 ≤ t235) = false := decide_eq_false c68
                    clear c68
                    obtain rfl := Option.some.inj H
                    go_wp2_with (first | (go_at_call 17; (with_reducible refine (calendar_Month.calls (wrap64 (t228 + 1)) t239 _ A22.out (TabBefore.below hTBefore.out (by repeat (first | exact HB.out | exact Below.refl _ _ | apply below_alloc | apply pw_below_drewN | apply below_drew1 | apply below_drew)))).mono ?_); rintro e w74 ⟨rfl, hb⟩; have n0_ := Aside0.mk (below_step (by repeat (first | (with_reducible first | exact HB.out | apply below_alloc | apply pw_below_drewN | apply below_drew1) | exact HB.out)) hb); clear HB; have HB := n0_; clear n0_; (try clear hb); (try clear hb2); (try clear hk); (try clear hi)) | (go_at_call 17; (with_reducible refine (calendar_Month.calls t228 t240 _ A23.out (TabBefore.below hTBefore.out (by repeat (first | exact HB.out | exact Below.refl _ _ | apply below_alloc | apply pw_below_drewN | apply below_drew1 | apply below_drew)))).mono ?_); rintro e w75 ⟨rfl, hb⟩; have n0_ := Aside0.mk (below_step (by repeat (first | (with_reducible first | exact HB.out | apply below_alloc | apply pw_below_drewN | apply below_drew1) | exact HB.out)) hb); clear HB; have HB := n0_; clear n0_; (try clear hb); (try clear hb2); (try clear hk); (try clear hi)))
                    go_ret
                    exact ⟨by first | rfl | (simp [errW_none, errW_some] <;> rfl) | (simp [*, errW_none, errW_some] <;> rfl), by repeat (first | (with_reducible first | exact HB.out | apply below_alloc | apply pw_below_drewN | apply below_drew1) | exact HB.out)⟩
                · replace c67 := Bool.eq_false_iff.mpr c67
                  subst c67
                  have H1 : (some false) = some r := by rw [if_neg (show ¬ (false = true) by decide)] at H; exact H
                  clear H
                  have H := H1
                  clear H1
                  obtain rfl := Option.some.inj H
                  go_wp2_with (first | (go_at_call 17; (with_reducible refine (calendar_Month.calls (wrap64 (t228 + 1)) t239 _ A22.out (TabBefore.below hTBefore.out (by repeat (first | exact HB.out | exact Below.refl _ _ | apply below_alloc | apply pw_below_drewN | apply below_drew1 | apply below_drew)))).mono ?_); rintro e w76 ⟨rfl, hb⟩; have n0_ := Aside0.mk (below_step (by repeat (first | (with_reducible first | exact HB.out | apply below_alloc | apply pw_below_drewN | apply below_drew1) | exact HB.out)) hb); clear HB; have HB := n0_; clear n0_; (try clear hb); (try clear hb2); (try clear hk); (try clear hi)) | (go_at_call 17; (with_reducible refine (calendar_Month.calls t228 t240 _ A23.out (TabBefore.below hTBefore.out (by repeat (first | exact HB.out | exact Below.refl _ _ | apply below_alloc | apply pw_below_drewN | apply below_drew1 | apply below_drew)))).mono ?_); rintro e w77 ⟨rfl, hb⟩; have n0_ := Aside0.mk (below_step (by repeat (first | (with_reducible first | exact HB.out | apply below_alloc | apply pw_below_drewN | apply below_drew1) | exact HB.out)) hb); clear HB; have HB := n0_; clear n0_; (try clear hb); (try clear hb2); (try clear hk); (try clear hi)))
                  go_ret
                  exact ⟨by first | rfl | (simp [errW_none, errW_some] <;> rfl) | (simp [*, errW_none, errW_some] <;> rfl), by repeat (first | (with_reducible first | exact HB.out | apply below_alloc | apply pw_below_drewN | apply below_drew1) | exact HB.out)⟩
              · replace c66 := Bool.eq_false_iff.mpr c66
                subst c66
                have H1 : (some false) = some r := by rw [if_neg (show ¬ (false = true) by decide)] at H; exact H
                clear H
                have H := H1
                clear H1
                obtain rfl := Option.some.inj H
                go_wp2_with (first | (go_at_call 17; (with_reducible refine (calendar_Month.calls (wrap64 (t228 + 1)) t239 _ A22.out (TabBefore.below hTBefore.out (by repeat (first | exact HB.out | exact Below.refl _ _ | apply below_alloc | apply pw_below_drewN | apply below_drew1 | apply below_drew)))).mono ?_); rintro e w78 ⟨rfl, hb⟩; have n0_ := Aside0.mk (below_step (by repeat (first | (with_reducible first | exact HB.out | apply below_alloc | apply pw_below_drewN | apply below_drew1) | exact HB.out)) hb); clear HB; have HB := n0_; clear n0_; (try clear hb); (try clear hb2); (try clear hk); (try clear hi)) | (go_at_call 17; (with_reducible refine (calendar_Month.calls t228 t240 _ A23.out (TabBefore.below hTBefore.out (by repeat (first | exact HB.out | exact Below.refl _ _ | apply below_alloc | apply pw_below_drewN | apply below_drew1 | apply below_drew)))).mono ?_); rintro e w79 ⟨rfl, hb⟩; have n0_ := Aside0.mk (below_step (by repeat (first | (with_reducible first | exact HB.out | apply below_alloc | apply pw_below_drewN | apply below_drew1) | exact HB.out)) hb); clear HB; have HB := n0_; clear n0_; (try clear hb); (try clear hb2); (try clear hk); (try clear hi)))
                go_ret
                exact ⟨by first | rfl | (simp [errW_none, errW_some] <;> rfl) | (simp [*, errW_none, errW_some] <;> rfl), by repeat (first | (with_reducible first | exact HB.out | apply below_alloc | apply pw_below_drewN | apply below_drew1) | exact HB.out)⟩
          · rw [if_neg c21] at H
            have c21b0 : (t233 == (wrap64 (t230 + 1))) = false := beq_eq_false_iff_ne.mpr c21
            have c21b1 : (t233 != (wrap64 (t230 + 1))) = true := bne_iff_ne.mpr c21
            by_cases c80 : t232 = (wrap64 (t229 + 1))
            · rw [if_pos c80] at H
              have c80b0 : (t232 == (wrap64 (t229 + 1))) = true := beq_iff_eq.mpr c80
              have c80b1 : (t232 != (wrap64 (t229 + 1))) = false := bne_eq_false_iff_eq.mpr c80
              clear c80
              by_cases c81 : t233 = 1
              · rw [if_pos c81] at H
                have c81b0 : (t233 == 1) = true := beq_iff_eq.mpr c81
                have c81b1 : (t233 != 1) = false := bne_eq_false_iff_eq.mpr c81
                clear c81
                by_cases c82 : t230 = 12
                · rw [if_pos c82] at H
                  have c82b0 : (t230 == 12) = true := beq_iff_eq.mpr c82
                  have c82b1 : (t230 != 12) = false := bne_eq_false_iff_eq.mpr c82
                  clear c82
                  replace H := Option.bind_eq_some_iff.mp H
                  obtain ⟨t243, A830, H⟩ := H
                  replace H : ((calendar_Month.f t228).bind fun t244 => (if t243 = (wrap64 (t244 + 1)) then ((calendar_Month.f t228).bind fun t245 => ((calendar_Length.f t245).bind fun t246 => (if t227 = true then (if x13_7 = true then (if t235 ≥ 1 then (if t235 ≤ 7 then (some (t236 == (wrap64 ((Int.tmod t235 7) + 1)))) else (some false)) else (some false)) else (if t231 = t246 then (if t235 ≥ 1 then (if t235 ≤ 7 then (some (t236 == (wrap64 ((Int.tmod t235 7) + 1)))) else (some false)) else (some false)) else (some false))) else (some false)))) else (if t227 = true then (if x13_7 = true then (if t235 ≥ 1 then (if t235 ≤ 7 then (some (t236 == (wrap64 ((Int.tmod t235 7) + 1)))) else (some false)) else (some false)) else (some false)) else (some false)))) = some r := H
                  have A83 := Aside0.mk A830
                  clear A830
                  replace H := Option.bind_eq_some_iff.mp H
                  obtain ⟨t244, A840, H⟩ := H
                  replace H : (if t243 = (wrap64 (t244 + 1)) then ((calendar_Month.f t228).bind fun t245 => ((calendar_Length.f t245).bind fun t246 => (if t227 = true then (if x13_7 = true then (if t235 ≥ 1 then (if t235 ≤ 7 then (some (t236 == (wrap64 ((Int.tmod t235 7) + 1)))) else (some false)) else (some false)) else (if t231 = t246 then (if t235 ≥ 1 then (if t235 ≤ 7 then (some (t236 == (wrap64 ((Int.tmod t235 7) + 1)))) else (some false)) else (some false)) else (some false))) else (some false)))) else (if t227 = true then (if x13_7 = true then (if t235 ≥ 1 then (if t235 ≤ 7 then (some (t236 == (wrap64 ((Int.tmod t235 7) + 1)))) else (some false)) else (some false)) else (some false)) else (some false))) = some r := H
                  have A84 := Aside0.mk A840
                  clear A840
                  by_cases c85 : t243 = (wrap64 (t244 + 1))
                  · rw [if_pos c85] at H
                    have c85b0 : (t243 == (wrap64 (t244 + 1))) = true := beq_iff_eq.mpr c85
                    have c85b1 : (t243 != (wrap64 (t244 + 1))) = false := bne_eq_false_iff_eq.mpr c85
                    clear c85
                    replace H := Option.bind_eq_some_iff.mp H
                    obtain ⟨t245, A860, H⟩ := H
                    replace H : ((calendar_Length.f t245).bind fun t246 => (if t227 = true then (if x13_7 = true then (if t235 ≥ 1 then (if t235 ≤ 7 then (some (t236 == (wrap64 ((Int.tmod t235 7) + 1)))) else (some false)) else (some false)) else (if t231 = t246 then (if t235 ≥ 1 then (if t235 ≤ 7 then (some (t236 == (wrap64 ((Int.tmod t235 7) + 1)))) else (some false)) else (some false)) else (some false))) else (some false))) = some r := H
                    have A86 := Aside0.mk A860
                    clear A860
                    obtain rfl : t244 = t245 := Option.some.inj (A84.out.symm.trans A86.out)
                    replace H := Option.bind_eq_some_iff.mp H
                    obtain ⟨t246, A870, H⟩ := H
                    replace H : (if t227 = true then (if x13_7 = true then (if t235 ≥ 1 then (if t235 ≤ 7 then (some (t236 == (wrap64 ((Int.tmod t235 7) + 1)))) else (some false)) else (some false)) else (if t231 = t246 then (if t235 ≥ 1 then (if t235 ≤ 7 then (some (t236 == (wrap64 ((Int.tmod t235 7) + 1)))) else (some false)) else (some false)) else (some false))) else (some false)) = some r := H
                    have A87 := Aside0.mk A870
                    clear A870
                    by_cases c88 : t227 = true
                    · subst c88
                      have H1 : (if x13_7 = true then (if t235 ≥ 1 then (if t235 ≤ 7 then (some (t236 == (wrap64 ((Int.tmod t235 7) + 1)))) else (some false)) else (some false)) else (if t231 = t246 then (if t235 ≥ 1 then (if t235 ≤ 7 then (some (t236 == (wrap64 ((Int.tmod t235 7) + 1)))) else (some false)) else (some false)) else (some false))) = some r := by rw [if_pos rfl] at H; exact H
                      clear H
                      have H := H1
                      clear H1
                      by_cases c89 : x13_7 = true
                      · subst c89
                        have H1 : (if t235 ≥ 1 then (if t235 ≤ 7 then (some (t236 == (wrap64 ((Int.tmod t235 7) + 1)))) else (some false)) else (some false)) = some r := by rw [if_pos rfl] at H; exact H
                        clear H
                        have H := H1
                        clear H1
                        by_cases c90 : t235 ≥ 1
                        · rw [if_pos c90] at H
                          have c90b0 : decide (1 ≤ t235) = true := decide_eq_true c90
                          clear c90
                          by_cases c91 : t235 ≤ 7
                          · rw [if_pos c91] at H
                            have c91b0 : decide (t235 ≤ 7) = true := decide_eq_true c91
                            clear c91
                            obtain rfl := Option.some.inj H
                            go_wp2_with (first | (go_at_call 17; (with_reducible refine (calendar_Month.calls (wrap64 (t228 + 1)) t243 _ A83.out (TabBefore.below hTBefore.out (by repeat (first | exact HB.out | exact Below.refl _ _ | apply below_alloc | apply pw_below_drewN | apply below_drew1 | apply below_drew)))).mono ?_); rintro e w92 ⟨rfl, hb⟩; have n0_ := Aside0.mk (below_step (by repeat (first | (with_reducible first | exact HB.out | apply below_alloc | apply pw_below_drewN | apply below_drew1) | exact HB.out)) hb); clear HB; have HB := n0_; clear n0_; (try clear hb); (try clear hb2); (try clear hk); (try clear hi)) | (go_at_call 17; (with_reducible refine (calendar_Month.calls t228 t244 _ A84.out (TabBefore.below hTBefore.out (by repeat (first | exact HB.out | exact Below.refl _ _ | apply below_alloc | apply pw_below_drewN | apply below_drew1 | apply below_drew)))).mono ?_); rintro e w93 ⟨rfl, hb⟩; have n0_ := Aside0.mk (below_step (by repeat (first | (with_reducible first | exact HB.out | apply below_alloc | apply pw_below_drewN | apply below_drew1) | exact HB.out)) hb); clear HB; have HB := n0_; clear n0_; (try clear hb); (try clear hb2); (try clear hk); (try clear hi)) | (go_at_call 17; (with_reducible refine (calendar_Month.calls t228 t244 _ A86.out (TabBefore.below hTBefore.out (by repeat (first | exact HB.out | exact Below.refl _ _ | apply below_alloc | apply pw_below_drewN | apply below_drew1 | apply below_drew)))).mono ?_); rintro e w94 ⟨rfl, hb⟩; have n0_ := Aside0.mk (below_step (by repeat (first | (with_reducible first | exact HB.out | apply below_alloc | apply pw_below_drewN | apply below_drew1) | exact HB.out)) hb); clear HB; have HB := n0_; clear n0_; (try clear hb); (try clear hb2); (try clear hk); (try clear hi)) | (go_at_call 23; (with_reducible refine (calendar_Length.calls t244 t246 _ A87.out (TabBefore.below hTBefore.out (by repeat (first | exact HB.out | exact Below.refl _ _ | apply below_alloc | apply pw_below_drewN | apply below_drew1 | apply below_drew)))).mono ?_); rintro e w95 ⟨rfl, hb⟩; have n0_ := Aside0.mk (below_step (by repeat (first | (with_reducible first | exact HB.out | apply below_alloc | apply pw_below_drewN | apply below_drew1) | exact HB.out)) hb); clear HB; have HB := n0_; clear n0_; (try clear hb); (try clear hb2); (try clear hk); (try clear hi)))
                            go_ret
                            exact ⟨by first | rfl | (simp [errW_none, errW_some] <;> rfl) | (simp [*, errW_none, errW_some] <;> rfl), by repeat (first | (with_reducible first | exact HB.out | apply below_alloc | apply pw_below_drewN | apply below_drew1) | exact HB.out)⟩
                          · rw [if_neg c91] at H
                            have c91b0 : decide (t235 ≤ 7) = false := decide_eq_false c91
                            clear c91
                            obtain rfl := Option.some.inj H
                            go_wp2_with (first | (go_at_call 17; (with_reducible refine (calendar_Month.calls (wrap64 (t228 + 1)) t243 _ A83.out (TabBefore.below hTBefore.out (by repeat (first | exact HB.out | exact Below.refl _ _ | apply below_alloc | apply pw_below_drewN | apply below_drew1 | apply below_drew)))).mono ?_); rintro e w96 ⟨rfl, hb⟩; have n0_ := Aside0.mk (below_step (by repeat (first | (with_reducible first | exact HB.out | apply below_alloc | apply pw_below_drewN | apply below_drew1) | exact HB.out)) hb); clear HB; have HB := n0_; clear n0_; (try clear hb); (try clear hb2); (try clear hk); (try clear hi)) | (go_at_call 17; (with_reducible refine (calendar_Month.calls t228 t244 _ A84.out (TabBefore.below hTBefore.out (by repeat (first | exact HB.out | exact Below.refl _ _ | apply below_alloc | apply pw_below_drewN | apply below_drew1 | apply below_drew)))).mono ?_); rintro e w97 ⟨rfl, hb⟩; have n0_ := Aside0.mk (below_step (by repeat (first | (with_reducible first | exact HB.out | apply below_alloc | apply pw_below_drewN | apply below_drew1) | exact HB.out)) hb); clear HB; have HB := n0_; clear n0_; (try clear hb); (try clear hb2); (try clear hk); (try clear hi)) | (go_at_call 17; (with_reducible refine (calendar_Month.calls t228 t244 _ A86.out (TabBefore.below hTBefore.out (by repeat (first | exact HB.out | exact Below.refl _ _ | apply below_alloc | apply pw_below_drewN | apply below_drew1 | apply below_drew)))).mono ?_); rintro e w98 ⟨rfl, hb⟩; have n0_ := Aside0.mk (below_step (by repeat (first | (with_reducible first | exact HB.out | apply below_alloc | apply pw_below_drewN | apply below_drew1) | exact HB.out)) hb); clear HB; have HB := n0_; clear n0_; (try clear hb); (try clear hb2); (try clear hk); (try clear hi)) | (go_at_call 23; (with_reducible refine (calendar_Length.calls t244 t246 _ A87.out (TabBefore.below hTBefore.out (by repeat (first | exact HB.out | exact Below.refl _ _ | apply below_alloc | apply pw_below_drewN | apply below_drew1 | apply below_drew)))).mono ?_); rintro e w99 ⟨rfl, hb⟩; have n0_ := Aside0.mk (below_step (by repeat (first | (with_reducible first | exact HB.out | apply below_alloc | apply pw_below_drewN | apply below_drew1) | exact HB.out)) hb); clear HB; have HB := n0_; clear n0_; (try clear hb); (try clear hb2); (try clear hk); (try clear hi)))
                            go_ret
                            exact ⟨by first | rfl | (simp [errW_none, errW_some] <;> rfl) | (simp [*, errW_none, errW_some] <;> rfl), by repeat (first | (with_reducible first | exact HB.out | apply below_alloc | apply pw_below_drewN | apply below_drew1) | exact HB.out)⟩
                        · rw [if_neg c90] at H
                          have c90b0 : decide (1 ≤ t235) = false := decide_eq_false c90
                          clear c90
                          obtain rfl := Option.some.inj H
                          go_wp2_with (first | (go_at_call 17; (with_reducible refine (calendar_Month.calls (wrap64 (t228 + 1)) t243 _ A83.out (TabBefore.below hTBefore.out (by repeat (first | exact HB.out | exact Below.refl _ _ | apply below_alloc | apply pw_below_drewN | apply below_drew1 | apply below_drew)))).mono ?_); rintro e w100 ⟨rfl, hb⟩; have n0_ := Aside0.mk (below_step (by repeat (first | (with_reducible first | exact HB.out | apply below_alloc | apply pw_below_drewN | apply below_drew1) | exact HB.out)) hb); clear HB; have HB := n0_; clear n0_; (try clear hb); (try clear hb2); (try clear hk); (try clear hi)) | (go_at_call 17; (with_reducible refine (calendar_Month.calls t228 t244 _ A84.out (TabBefore.below hTBefore.out (by repeat (first | exact HB.out | exact Below.refl _ _ | apply below_alloc | apply pw_below_drewN | apply below_drew1 | apply below_drew)))).mono ?_); rintro e w101 ⟨rfl, hb⟩; have n0_ := Aside0.mk (below_step (by repeat (first | (with_reducible first | exact HB.out | apply below_alloc | apply pw_below_drewN | apply below_drew1) | exact HB.out)) hb); clear HB; have HB := n0_; clear n0_; (try clear hb); (try clear hb2); (try clear hk); (try clear hi)) | (go_at_call 17; (with_reducible refine (calendar_Month.calls t228 t244 _ A86.out (TabBefore.below hTBefore.out (by repeat (first | exact HB.out | exact Below.refl _ _ | apply below_alloc | apply pw_below_drewN | apply below_drew1 | apply below_drew)))).mono ?_); rintro e w102 ⟨rfl, hb⟩; have n0_ := Aside0.mk (below_step (by repeat (first | (with_reducible first | exact HB.out | apply below_alloc | apply pw_below_drewN | apply below_drew1) | exact HB.out)) hb); clear HB; have HB := n0_; clear n0_; (try clear hb); (try clear hb2); (try clear hk); (try clear hi)) | (go_at_call 23; (with_reducible refine (calendar_Length.calls t244 t246 _ A87.out (TabBefore.below hTBefore.out (by repeat (first | exact HB.out | exact Below.refl _ _ | apply below_alloc | apply pw_below_drewN | apply below_drew1 | apply below_drew)))).mono ?_); rintro e w103 ⟨rfl, hb⟩; have n0_ := Aside0.mk (below_step (by repeat (first | (with_reducible first | exact HB.out | apply below_alloc | apply pw_below_drewN | apply below_drew1) | exact HB.out)) hb); clear HB; have HB := n0_; clear n0_; (try clear hb); (try clear hb2); (try clear hk); (try clear hi)))
                          go_ret
                          exact ⟨by first | rfl | (simp [errW_none, errW_some] <;> rfl) | (simp [*, errW_none, errW_some] <;> rfl), by repeat (first | (with_reducible first | exact HB.out | apply below_alloc | apply pw_below_drewN | apply below_drew1) | exact HB.out)⟩
                      · replace c89 := Bool.eq_false_iff.mpr c89
                        subst c89
                        have H1 : (if t231 = t246 then (if t235 ≥ 1 then (if t235 ≤ 7 then (some (t236 == (wrap64 ((Int.tmod t235 7) + 1)))) else (some false)) else (some false)) else (some false)) = some r := by rw [if_neg (show ¬ (false = true) by decide)] at H; exact H
                        clear H
                        have H := H1
                        clear H1
                        by_cases c104 : t231 = t246
                        · rw [if_pos c104] at H
                          have c104b0 : (t231 == t246) = true := beq_iff_eq.mpr c104
                          have c104b1 : (t231 != t246) = false := bne_eq_false_iff_eq.mpr c104
                          clear c104
                          by_cases c105 : t235 ≥ 1
                          · rw [if_pos c105] at H
                            have c105b0 : decide (1 ≤ t235) = true := decide_eq_true c105
                            clear c105
                            by_cases c106 : t235 ≤ 7
                            · rw [if_pos c106] at H
                              have c106b0 : decide (t235 ≤ 7) = true := decide_eq_true c106
                              clear c106
                              obtain rfl := Option.some.inj H
                              go_wp2_with (first | (go_at_call 17; (with_reducible refine (calendar_Month.calls (wrap64 (t228 + 1)) t243 _ A83.out (TabBefore.below hTBefore.out (by repeat (first | exact HB.out | exact Below.refl _ _ | apply below_alloc | apply pw_below_drewN | apply below_drew1 | apply below_drew)))).mono ?_); rintro e w107 ⟨rfl, hb⟩; have n0_ := Aside0.mk (below_step (by repeat (first | (with_reducible first | exact HB.out | apply below_alloc | apply pw_below_drewN | apply below_drew1) | exact HB.out)) hb); clear HB; have HB := n0_; clear n0_; (try clear hb); (try clear hb2); (try clear hk); (try clear hi)) | (go_at_call 17; (with_reducible refine (calendar_Month.calls t228 t244 _ A84.out (TabBefore.below hTBefore.out (by repeat (first | exact HB.out | exact Below.refl _ _ | apply below_alloc | apply pw_below_drewN | apply below_drew1 | apply below_drew)))).mono ?_); rintro e w108 ⟨rfl, hb⟩; have n0_ := Aside0.mk (below_step (by repeat (first | (with_reducible first | exact HB.out | apply below_alloc | apply pw_below_drewN | apply below_drew1) | exact HB.out)) hb); clear HB; have HB := n0_; clear n0_; (try clear hb); (try clear hb2); (try clear hk); (try clear hi)) | (go_at_call 17; (with_reducible refine (calendar_Month.calls t228 t244 _ A86.out (TabBefore.below hTBefore.out (by repeat (first | exact HB.out | exact Below.refl _ _ | apply below_alloc | apply pw_below_drewN | apply below_drew1 | apply below_drew)))).mono ?_); rintro e w109 ⟨rfl, hb⟩; have n0_ := Aside0.mk (below_step (by repeat (first | (with_reducible first | exact HB.out | apply below_alloc | apply pw_below_drewN | apply below_drew1) | exact HB.out)) hb); clear HB; have HB := n0_; clear n0_; (try clear hb); (try clear hb2); (try clear hk); (try clear hi)) | (go_at_call 23; (with_reducible refine (calendar_Length.calls t244 t246 _ A87.out (TabBefore.below hTBefore.out (by repeat (first | exact HB.out | exact Below.refl _ _ | apply below_alloc | apply pw_below_drewN | apply below_drew1 | apply below_drew)))).mono ?_); rintro e w110 ⟨rfl, hb⟩; have n0_ := Aside0.mk (below_step (by repeat (first | (with_reducible first | exact HB.out | apply below_alloc | apply pw_below_drewN | apply below_drew1) | exact HB.out)) hb); clear HB; have HB := n0_; clear n0_; (try clear hb); (try clear hb2); (try clear hk); (try clear hi)))
                              go_ret
                              exact ⟨by first | rfl | (simp [errW_none, errW_some] <;> rfl) | (simp [*, errW_none, errW_some] <;> rfl), by repeat (first | (with_reducible first | exact HB.out | apply below_alloc | apply pw_below_drewN | apply below_drew1) | exact HB.out)⟩
                            · rw [if_neg c106] at H
                              have c106b0 : decide (t235 ≤ 7) = false := decide_eq_false c106
                              clear c106
                              obtain rfl := Option.some.inj H
                              go_wp2_with (first | (go_at_call 17; (with_reducible refine (calendar_Month.calls (wrap64 (t228 + 1)) t243 _ A83.out (TabBefore.below hTBefore.out (by repeat (first | exact HB.out | exact Below.refl _ _ | apply below_alloc | apply pw_below_drewN | apply below_drew1 | apply below_drew)))).mono ?_); rintro e w111 ⟨rfl, hb⟩; have n0_ := Aside0.mk (below_step (by repeat (first | (with_reducible first | exact HB.out | apply below_alloc | apply pw_below_drewN | apply below_drew1) | exact HB.out)) hb); clear HB; have HB := n0_; clear n0_; (try clear hb); (try clear hb2); (try clear hk); (try clear hi)) | (go_at_call 17; (with_reducible refine (calendar_Month.calls t228 t244 _ A84.out (TabBefore.below hTBefore.out (by repeat (first | exact HB.out | exact Below.refl _ _ | apply below_alloc | apply pw_below_drewN | apply below_drew1 | apply below_drew)))).mono ?_); rintro e w112 ⟨rfl, hb⟩; have n0_ := Aside0.mk (below_step (by repeat (first | (with_reducible first | exact HB.out | apply below_alloc | apply pw_below_drewN | apply below_drew1) | exact HB.out)) hb); clear HB; have HB := n0_; clear n0_; (try clear hb); (try clear hb2); (try clear hk); (try clear hi)) | (go_at_call 17; (with_reducible refine (calendar_Month.calls t228 t244 _ A86.out (TabBefore.below hTBefore.out (by repeat (first | exact HB.out | exact Below.refl _ _ | apply below_alloc | apply pw_below_drewN | apply below_drew1 | apply below_drew)))).mono ?_); rintro e w113 ⟨rfl, hb⟩; have n0_ := Aside0.mk (below_step (by repeat (first | (with_reducible first | exact HB.out | apply below_alloc | apply pw_below_drewN | apply below_drew1) | exact HB.out)) hb); clear HB; have HB := n0_; clear n0_; (try clear hb); (try clear hb2); (try clear hk); (try clear hi)) | (go_at_call 23; (with_reducible refine (calendar_Length.calls t244 t246 _ A87.out (TabBefore.below hTBefore.out (by repeat (first | exact HB.out | exact Below.refl _ _ | apply below_alloc | apply pw_below_drewN | apply below_drew1 | apply below_drew)))).mono ?_); rintro e w114 ⟨rfl, hb⟩; have n0_ := Aside0.mk (below_step (by repeat (first | (with_reducible first | exact HB.out | apply below_alloc | apply pw_below_drewN | apply below_drew1) | exact HB.out)) hb); clear HB; have HB := n0_; clear n0_; (try clear hb); (try clear hb2); (try clear hk); (try clear hi)))
                              go_ret
                              exact ⟨by first | rfl | (simp [errW_none, errW_some] <;> rfl) | (simp [*, errW_none, errW_some] <;> rfl), by repeat (first | (with_reducible first | exact HB.out | apply below_alloc | apply pw_below_drewN | apply below_drew1) | exact HB.out)⟩
                          · rw [if_neg c105] at H
                            have c105b0 : decide (1 ≤ t235) = false := decide_eq_false c105
                            clear c105
                            obtain rfl := Option.some.inj H
                            go_wp2_with (first | (go_at_call 17; (with_reducible refine (calendar_Month.calls (wrap64 (t228 + 1)) t243 _ A83.out (TabBefore.below hTBefore.out (by repeat (first | exact HB.out | exact Below.refl _ _ | apply below_alloc | apply pw_below_drewN | apply below_drew1 | apply below_drew)))).mono ?_); rintro e w115 ⟨rfl, hb⟩; have n0_ := Aside0.mk (below_step (by repeat (first | (with_reducible first | exact HB.out | apply below_alloc | apply pw_below_drewN | apply below_drew1) | exact HB.out)) hb); clear HB; have HB := n0_; clear n0_; (try clear hb); (try clear hb2); (try clear hk); (try clear hi)) | (go_at_call 17; (with_reducible refine (calendar_Month.calls t228 t244 _ A84.out (TabBefore.below hTBefore.out (by repeat (first | exact HB.out | exact Below.refl _ _ | apply below_alloc | apply pw_below_drewN | apply below_drew1 | apply below_drew)))).mono ?_); rintro e w116 ⟨rfl, hb⟩; have n0_ := Aside0.mk (below_step (by repeat (first | (with_reducible first | exact HB.out | apply below_alloc | apply pw_below_drewN | apply below_drew1) | exact HB.out)) hb); clear HB; have HB := n0_; clear n0_; (try clear hb); (try clear hb2); (try clear hk); (try clear hi)) | (go_at_call 17; (with_reducible refine (calendar_Month.calls t228 t244 _ A86.out (TabBefore.below hTBefore.out (by repeat (first | exact HB.out | exact Below.refl _ _ | apply below_alloc | apply pw_below_drewN | apply below_drew1 | apply below_drew)))).mono ?_); rintro e w117 ⟨rfl, hb⟩; have n0_ := Aside0.mk (below_step (by repeat (first | (with_reducible first | exact HB.out | apply below_alloc | apply pw_below_drewN | apply below_drew1) | exact HB.out)) hb); clear HB; have HB := n0_; clear n0_; (try clear hb); (try clear hb2); (try clear hk); (try clear hi)) | (go_at_call 23; (with_reducible refine (calendar_Length.calls t244 t246 _ A87.out (TabBefore.below hTBefore.out (by repeat (first | exact HB.out | exact Below.refl _ _ | apply below_alloc | apply pw_below_drewN | apply below_drew1 | apply below_drew)))).mono ?_); rintro e w118 ⟨rfl, hb⟩; have n0_ := Aside0.mk (below_step (by repeat (first | (with_reducible first | exact HB.out | apply below_alloc | apply pw_below_drewN | apply below_drew1) | exact HB.out)) hb); clear HB; have HB := n0_; clear n0_; (try clear hb); (try clear hb2); (try clear hk); (try clear hi)))
                            go_ret
                            exact ⟨by first | rfl | (simp [errW_none, errW_some] <;> rfl) | (simp [*, errW_none, errW_some] <;> rfl), by repeat (first | (with_reducible first | exact HB.out | apply below_alloc | apply pw_below_drewN | apply below_drew1) | exact HB.out)⟩
                        · rw [if_neg c104] at H
                          have c104b0 : (t231 == t246) = false := beq_eq_false_iff_ne.mpr c104
                          have c104b1 : (t231 != t246) = true := bne_iff_ne.mpr c104
                          obtain rfl := Option.some.inj H
                          go_wp2_with (first | (go_at_call 17; (with_reducible refine (calendar_Month.calls (wrap64 (t228 + 1)) t243 _ A83.out (TabBefore.below hTBefore.out (by repeat (first | exact HB.out | exact Below.refl _ _ | apply below_alloc | apply pw_below_drewN | apply below_drew1 | apply below_drew)))).mono ?_); rintro e w119 ⟨rfl, hb⟩; have n0_ := Aside0.mk (below_step (by repeat (first | (with_reducible first | exact HB.out | apply below_alloc | apply pw_below_drewN | apply below_drew1) | exact HB.out)) hb); clear HB; have HB := n0_; clear n0_; (try clear hb); (try clear hb2); (try clear hk); (try clear hi)) | (go_at_call 17; (with_reducible refine (calendar_Month.calls t228 t244 _ A84.out (TabBefore.below hTBefore.out (by repeat (first | exact HB.out | exact Below.refl _ _ | apply below_alloc | apply pw_below_drewN | apply below_drew1 | apply below_drew)))).mono ?_); rintro e w120 ⟨rfl, hb⟩; have n0_ := Aside0.mk (below_step (by repeat (first | (with_reducible first | exact HB.out | apply below_alloc | apply pw_below_drewN | apply below_drew1) | exact HB.out)) hb); clear HB; have HB := n0_; clear n0_; (try clear hb); (try clear hb2); (try clear hk); (try clear hi)) | (go_at_call 17; (with_reducible refine (calendar_Month.calls t228 t244 _ A86.out (TabBefore.below hTBefore.out (by repeat (first | exact HB.out | exact Below.refl _ _ | apply below_alloc | apply pw_below_drewN | apply below_drew1 | apply below_drew)))).mono ?_); rintro e w121 ⟨rfl, hb⟩; have n0_ := Aside0.mk (below_step (by repeat (first | (with_reducible first | exact HB.out | apply below_alloc | apply pw_below_drewN | apply below_drew1) | exact HB.out)) hb); clear HB; have HB := n0_; clear n0_; (try clear hb); (try clear hb2); (try clear hk); (try clear hi)) | (go_at_call 23; (with_reducible refine (calendar_Length.calls t244 t246 _ A87.out (TabBefore.below hTBefore.out (by repeat (first | exact HB.out | exact Below.refl _ _ | apply below_alloc | apply pw_below_drewN | apply below_drew1 | apply below_drew)))).mono ?_); rintro e w122 ⟨rfl, hb⟩; have n0_ := Aside0.mk (below_step (by repeat (first | (with_reducible first | exact HB.out | apply below_alloc | apply pw_below_drewN | apply below_drew1) | exact HB.out)) hb); clear HB; have HB := n0_; clear n0_; (try clear hb); (try clear hb2); (try clear hk); (try clear hi)))
                          go_ret
                          exact ⟨by first | rfl | (simp [errW_none, errW_some] <;> rfl) | (simp [*, errW_none, errW_some] <;> rfl), by repeat (first | (with_reducible first | exact HB.out | apply below_alloc | apply pw_below_drewN | apply below_drew1) | exact HB.out)⟩
                    · replace c88 := Bool.eq_false_iff.mpr c88
                      subst c88
                      have H1 : (some false) = some r := by rw [if_neg (show ¬ (false = true) by decide)] at H; exact H
                      clear H
                      have H := H1
                      clear H1
                      obtain rfl := Option.some.inj H
                      go_wp2_with (first | (go_at_call 17; (with_reducible refine (calendar_Month.calls (wrap64 (t228 + 1)) t243 _ A83.out (TabBefore.below hTBefore.out (by repeat (first | exact HB.out | exact Below.refl _ _ | apply below_alloc | apply pw_below_drewN | apply below_drew1 | apply below_drew)))).mono ?_); rintro e w123 ⟨rfl, hb⟩; have n0_ := Aside0.mk (below_step (by repeat (first | (with_reducible first | exact HB.out | apply below_alloc | apply pw_below_drewN | apply below_drew1) | exact HB.out)) hb); clear HB; have HB := n0_; clear n0_; (try clear hb); (try clear hb2); (try clear hk); (try clear hi)) | (go_at_call 17; (with_reducible refine (calendar_Month.calls t228 t244 _ A84.out (TabBefore.below hTBefore.out (by repeat (first | exact HB.out | exact Below.refl _ _ | apply below_alloc | apply pw_below_drewN | apply below_drew1 | apply below_drew)))).mono ?_); rintro e w124 ⟨rfl, hb⟩; have n0_ := Aside0.mk (below_step (by repeat (first | (with_reducible first | exact HB.out | apply below_alloc | apply pw_below_drewN | apply below_drew1) | exact HB.out)) hb); clear HB; have HB := n0_; clear n0_; (try clear hb); (try clear hb2); (try clear hk); (try clear hi)) | (go_at_call 17; (with_reducible refine (calendar_Month.calls t228 t244 _ A86.out (TabBefore.below hTBefore.out (by repeat (first | exact HB.out | exact Below.refl _ _ | apply below_alloc | apply pw_below_drewN | apply below_drew1 | apply below_drew)))).mono ?_); rintro e w125 ⟨rfl, hb⟩; have n0_ := Aside0.mk (below_step (by repeat (first | (with_reducible first | exact HB.out | apply below_alloc | apply pw_below_drewN | apply below_drew1) | exact HB.out)) hb); clear HB; have HB := n0_; clear n0_; (try clear hb); (try clear hb2); (try clear hk); (try clear hi)) | (go_at_call 23; (with_reducible refine (calendar_Length.calls t244 t246 _ A87.out (TabBefore.below hTBefore.out (by repeat (first | exact HB.out | exact Below.refl _ _ | apply below_alloc | apply pw_below_drewN | apply below_drew1 | apply below_drew)))).mono ?_); rintro e w126 ⟨rfl, hb⟩; have n0_ := Aside0.mk (below_step (by repeat (first | (with_reducible first | exact HB.out | apply below_alloc | apply pw_below_drewN | apply below_drew1) | exact HB.out)) hb); clear HB; have HB := n0_; clear n0_; (try clear hb); (try clear hb2); (try clear hk); (try clear hi)))
                      go_ret
                      exact ⟨by first | rfl | (simp [errW_none, errW_some] <;> rfl) | (simp [*, errW_none, errW_some] <;> rfl), by repeat (first | (with_reducible first | exact HB.out | apply below_alloc | apply pw_below_drewN | apply below_drew1) | exact HB.out)⟩
                  · rw [if_neg c85] at H
                    have c85b0 : (t243 == (wrap64 (t244 + 1))) = false := beq_eq_false_iff_ne.mpr c85
                    have c85b1 : (t243 != (wrap64 (t244 + 1))) = true := bne_iff_ne.mpr c85
                    by_cases c127 : t227 = true
                    · subst c127
                      have H1 : (if x13_7 = true then (if t235 ≥ 1 then (if t235 ≤ 7 then (some (t236 == (wrap64 ((Int.tmod t235 7) + 1)))) else (some false)) else (some false)) else (some false)) = some r := by rw [if_pos rfl] at H; exact H
                      clear H
                      have H := H1
                      clear H1
                      by_cases c128 : x13_7 = true
                      · subst c128
                        have H1 : (if t235 ≥ 1 then (if t235 ≤ 7 then (some (t236 == (wrap64 ((Int.tmod t235 7) + 1)))) else (some false)) else (some false)) = some r := by rw [if_pos rfl] at H; exact H
                        clear H
                        have H := H1
                        clear H1
                        by_cases c129 : t235 ≥ 1
                        · rw [if_pos c129] at H
                          have c129b0 : decide (1 ≤ t235) = true := decide_eq_true c129
                          clear c129
                          by_cases c130 : t235 ≤ 7
                          · rw [if_pos c130] at H
                            have c130b0 : decide (t235 ≤ 7) = true := decide_eq_true c130
                            clear c130
                            obtain rfl := Option.some.inj H
                            go_wp2_with (first | (go_at_call 17; (with_reducible refine (calendar_Month.calls (wrap64 (t228 + 1)) t243 _ A83.out (TabBefore.below hTBefore.out (by repeat (first | exact HB.out | exact Below.refl _ _ | apply below_alloc | apply pw_below_drewN | apply below_drew1 | apply below_drew)))).mono ?_); rintro e w131 ⟨rfl, hb⟩; have n0_ := Aside0.mk (below_step (by repeat (first | (with_reducible first | exact HB.out | apply below_alloc | apply pw_below_drewN | apply below_drew1) | exact HB.out)) hb); clear HB; have HB := n0_; clear n0_; (try clear hb); (try clear hb2); (try clear hk); (try clear hi)) | (go_at_call 17; (with_reducible refine (calendar_Month.calls t228 t244 _ A84.out (TabBefore.below hTBefore.out (by repeat (first | exact HB.out | exact Below.refl _ _ | apply below_alloc | apply pw_below_drewN | apply below_drew1 | apply below_drew)))).mono ?_); rintro e w132 ⟨rfl, hb⟩; have n0_ := Aside0.mk (below_step (by repeat (first | (with_reducible first | exact HB.out | apply below_alloc | apply pw_below_drewN | apply below_drew1) | exact HB.out)) hb); clear HB; have HB := n0_; clear n0_; (try clear hb); (try clear hb2); (try clear hk); (try clear hi)))
                            go_ret
                            exact ⟨by first | rfl | (simp [errW_none, errW_some] <;> rfl) | (simp [*, errW_none, errW_some] <;> rfl), by repeat (first | (with_reducible first | exact HB.out | apply below_alloc | apply pw_below_drewN | apply below_drew1) | exact HB.out)⟩
                          · rw [if_neg c130] at H
                            have c130b0 : decide (t235 ≤ 7) = false := decide_eq_false c130
                            clear c130
                            obtain rfl := Option.some.inj H
                            go_wp2_with (first | (go_at_call 17; (with_reducible refine (calendar_Month.calls (wrap64 (t228 + 1)) t243 _ A83.out (TabBefore.below hTBefore.out (by repeat (first | exact HB.out | exact Below.refl _ _ | apply below_alloc | apply pw_below_drewN | apply below_drew1 | apply below_drew)))).mono ?_); rintro e w133 ⟨rfl, hb⟩; have n0_ := Aside0.mk (below_step (by repeat (first | (with_reducible first | exact HB.out | apply below_alloc | apply pw_below_drewN | apply below_drew1) | exact HB.out)) hb); clear HB; have HB := n0_; clear n0_; (try clear hb); (try clear hb2); (try clear hk); (try clear hi)) | (go_at_call 17; (with_reducible refine (calendar_Month.calls t228 t244 _ A84.out (TabBefore.below hTBefore.out (by repeat (first | exact HB.out | exact Below.refl _ _ | apply below_alloc | apply pw_below_drewN | apply below_drew1 | apply below_drew)))).mono ?_); rintro e w134 ⟨rfl, hb⟩; have n0_ := Aside0.mk (below_step (by repeat (first | (with_reducible first | exact HB.out | apply below_alloc | apply pw_below_drewN | apply below_drew1) | exact HB.out)) hb); clear HB; have HB := n0_; clear n0_; (try clear hb); (try clear hb2); (try clear hk); (try clear hi)))
                            go_ret
                            exact ⟨by first | rfl | (simp [errW_none, errW_some] <;> rfl) | (simp [*, errW_none, errW_some] <;> rfl), by repeat (first | (with_reducible first | exact HB.out | apply below_alloc | apply pw_below_drewN | apply below_drew1) | exact HB.out)⟩
                        · rw [if_neg c129] at H
                          have c129b0 : decide (1 ≤ t235) = false := decide_eq_false c129
                          clear c129
                          obtain rfl := Option.some.inj H
                          go_wp2_with (first | (go_at_call 17; (with_reducible refine (calendar_Month.calls (wrap64 (t228 + 1)) t243 _ A83.out (TabBefore.below hTBefore.out (by repeat (first | exact HB.out | exact Below.refl _ _ | apply below_alloc | apply pw_below_drewN | apply below_drew1 | apply below_drew)))).mono ?_); rintro e w135 ⟨rfl, hb⟩; have n0_ := Aside0.mk (below_step (by repeat (first | (with_reducible first | exact HB.out | apply below_alloc | apply pw_below_drewN | apply below_drew1) | exact HB.out)) hb); clear HB; have HB := n0_; clear n0_; (try clear hb); (try clear hb2); (try clear hk); (try clear hi)) | (go_at_call 17; (with_reducible refine (calendar_Month.calls t228 t244 _ A84.out (TabBefore.below hTBefore.out (by repeat (first | exact HB.out | exact Below.refl _ _ | apply below_alloc | apply pw_below_drewN | apply below_drew1 | apply below_drew)))).mono ?_); rintro e w136 ⟨rfl, hb⟩; have n0_ := Aside0.mk (below_step (by repeat (first | (with_reducible first | exact HB.out | apply below_alloc | apply pw_below_drewN | apply below_drew1) | exact HB.out)) hb); clear HB; have HB := n0_; clear n0_; (try clear hb); (try clear hb2); (try clear hk); (try clear hi)))
                          go_ret
                          exact ⟨by first | rfl | (simp [errW_none, errW_some] <;> rfl) | (simp [*, errW_none, errW_some] <;> rfl), by repeat (first | (with_reducible first | exact HB.out | apply below_alloc | apply pw_below_drewN | apply below_drew1) | exact HB.out)⟩
                      · replace c128 := Bool.eq_false_iff.mpr c128
                        subst c128
                        have H1 : (some false) = some r := by rw [if_neg (show ¬ (false = true) by decide)] at H; exact H
                        clear H
                        have H := H1
                        clear H1
                        obtain rfl := Option.some.inj H
                        go_wp2_with (first | (go_at_call 17; (with_reducible refine (calendar_Month.calls (wrap64 (t228 + 1)) t243 _ A83.out (TabBefore.below hTBefore.out (by repeat (first | exact HB.out | exact Below.refl _ _ | apply below_alloc | apply pw_below_drewN | apply below_drew1 | apply below_drew)))).mono ?_); rintro e w137 ⟨rfl, hb⟩; have n0_ := Aside0.mk (below_step (by repeat (first | (with_reducible first | exact HB.out | apply below_alloc | apply pw_below_drewN | apply below_drew1) | exact HB.out)) hb); clear HB; have HB := n0_; clear n0_; (try clear hb); (try clear hb2); (try clear hk); (try clear hi)) | (go_at_call 17; (with_reducible refine (calendar_Month.calls t228 t244 _ A84.out (TabBefore.below hTBefore.out (by repeat (first | exact HB.out | exact Below.refl _ _ | apply below_alloc | apply pw_below_drewN | apply below_drew1 | apply below_drew)))).mono ?_); rintro e w138 ⟨rfl, hb⟩; have n0_ := Aside0.mk (below_step (by repeat (first | (with_reducible first | exact HB.out | apply below_alloc | apply pw_below_drewN | apply below_drew1) | exact HB.out)) hb); clear HB; have HB := n0_; clear n0_; (try clear hb); (try clear hb2); (try clear hk); (try clear hi)))
                        go_ret
                        exact ⟨by first | rfl | (simp [errW_none, errW_some] <;> rfl) | (simp [*, errW_none, errW_some] <;> rfl), by repeat (first | (with_reducible first | exact HB.out | apply below_alloc | apply pw_below_drewN | apply below_drew1) | exact HB.out)⟩
                    · replace c127 := Bool.eq_false_iff.mpr c127
                      subst c127
                      have H1 : (some false) = some r := by rw [if_neg (show ¬ (false = true) by decide)] at H; exact H
                      clear H
                      have H := H1
                      clear H1
                      obtain rfl := Option.some.inj H
                      go_wp2_with (first | (go_at_call 17; (with_reducible refine (calendar_Month.calls (wrap64 (t228 + 1)) t243 _ A83.out (TabBefore.below hTBefore.out (by repeat (first | exact HB.out | exact Below.refl _ _ | apply below_alloc | apply pw_below_drewN | apply below_drew1 | apply below_drew)))).mono ?_); rintro e w139 ⟨rfl, hb⟩; have n0_ := Aside0.mk (below_step (by repeat (first | (with_reducible first | exact HB.out | apply below_alloc | apply pw_below_drewN | apply below_drew1) | exact HB.out)) hb); clear HB; have HB := n0_; clear n0_; (try clear hb); (try clear hb2); (try clear hk); (try clear hi)) | (go_at_call 17; (with_reducible refine (calendar_Month.calls t228 t244 _ A84.out (TabBefore.below hTBefore.out (by repeat (first | exact HB.out | exact Below.refl _ _ | apply below_alloc | apply pw_below_drewN | apply below_drew1 | apply below_drew)))).mono ?_); rintro e w140 ⟨rfl, hb⟩; have n0_ := Aside0.mk (below_step (by repeat (first | (with_reducible first | exact HB.out | apply below_alloc | apply pw_below_drewN | apply below_drew1) | exact HB.out)) hb); clear HB; have HB := n0_; clear n0_; (try clear hb); (try clear hb2); (try clear hk); (try clear hi)))
                      go_ret
                      exact ⟨by first | rfl | (simp [errW_none, errW_some] <;> rfl) | (simp [*, errW_none, errW_some] <;> rfl), by repeat (first | (with_reducible first | exact HB.out | apply below_alloc | apply pw_below_drewN | apply below_drew1) | exact HB.out)⟩
                · rw [if_neg c82] at H
                  have c82b0 : (t230 == 12) = false := beq_eq_false_iff_ne.mpr c82
                  have c82b1 : (t230 != 12) = true := bne_iff_ne.mpr c82
                  by_cases c141 : t227 = true
                  · subst c141
                    have H1 : (if x13_7 = true then (if t235 ≥ 1 then (if t235 ≤ 7 then (some (t236 == (wrap64 ((Int.tmod t235 7) + 1)))) else (some false)) else (some false)) else (some false)) = some r := by rw [if_pos rfl] at H; exact H
                    clear H
                    have H := H1
                    clear H1
                    by_cases c142 : x13_7 = true
                    · subst c142
                      have H1 : (if t235 ≥ 1 then (if t235 ≤ 7 then (some (t236 == (wrap64 ((Int.tmod t235 7) + 1)))) else (some false)) else (some false)) = some r := by rw [if_pos rfl] at H; exact H
                      clear H
                      have H := H1
                      clear H1
                      by_cases c143 : t235 ≥ 1
                      · rw [if_pos c143] at H
                        have c143b0 : decide (1 ≤ t235) = true := decide_eq_true c143
                        clear c143
                        by_cases c144 : t235 ≤ 7
                        · rw [if_pos c144] at H
                          have c144b0 : decide (t235 ≤ 7) = true := decide_eq_true c144
                          clear c144
                          obtain rfl := Option.some.inj H
                          go_wp2
                          go_ret
                          exact ⟨by first | rfl | (simp [errW_none, errW_some] <;> rfl) | (simp [*, errW_none, errW_some] <;> rfl), by repeat (first | (with_reducible first | exact HB.out | apply below_alloc | apply pw_below_drewN | apply below_drew1) | exact HB.out)⟩
                        · rw [if_neg c144] at H
                          have c144b0 : decide (t235 ≤ 7) = false := decide_eq_false c144
                          clear c144
                          obtain rfl := Option.some.inj H
                          go_wp2
                          go_ret
                          exact ⟨by first | rfl | (simp [errW_none, errW_some] <;> rfl) | (simp [*, errW_none, errW_some] <;> rfl), by repeat (first | (with_reducible first | exact HB.out | apply below_alloc | apply pw_below_drewN | apply below_drew1) | exact HB.out)⟩
                      · rw [if_neg c143] at H
                        have c143b0 : decide (1 ≤ t235) = false := decide_eq_false c143
                        clear c143
                        obtain rfl := Option.some.inj H
                        go_wp2
                        go_ret
                        exact ⟨by first | rfl | (simp [errW_none, errW_some] <;> rfl) | (simp [*, errW_none, errW_some] <;> rfl), by repeat (first | (with_reducible first | exact HB.out | apply below_alloc | apply pw_below_drewN | apply below_drew1) | exact HB.out)⟩
                    · replace c142 := Bool.eq_false_iff.mpr c142
                      subst c142
                      have H1 : (some false) = some r := by rw [if_neg (show ¬ (false = true) by decide)] at H; exact H
                      clear H
                      have H := H1
                      clear H1
                      obtain rfl := Option.some.inj H
                      go_wp2
                      go_ret
                      exact ⟨by first | rfl | (simp [errW_none, errW_some] <;> rfl) | (simp [*, errW_none, errW_some] <;> rfl), by repeat (first | (with_reducible first | exact HB.out | apply below_alloc | apply pw_below_drewN | apply below_drew1) | exact HB.out)⟩
                  · replace c141 := Bool.eq_false_iff.mpr c141
                    subst c141
                    have H1 : (some false) = some r := by rw [if_neg (show ¬ (false = true) by decide)] at H; exact H
                    clear H
                    have H := H1
                    clear H1
                    obtain rfl := Option.some.inj H
                    go_wp2
                    go_ret
                    exact ⟨by first | rfl | (simp [errW_none, errW_some] <;> rfl) | (simp [*, errW_none, errW_some] <;> rfl), by repeat (first | (with_reducible first | exact HB.out | apply below_alloc | apply pw_below_drewN | apply below_drew1) | exact HB.out)⟩
              · rw [if_neg c81] at H
                have c81b0 : (t233 == 1) = false := beq_eq_false_iff_ne.mpr c81
                have c81b1 : (t233 != 1) = true := bne_iff_ne.mpr c81
                by_cases c145 : t227 = true
                · subst c145
                  have H1 : (if x13_7 = true then (if t235 ≥ 1 then (if t235 ≤ 7 then (some (t236 == (wrap64 ((Int.tmod t235 7) + 1)))) else (some false)) else (some false)) else (some false)) = some r := by rw [if_pos rfl] at H; exact H
                  clear H
                  have H := H1
                  clear H1
                  by_cases c146 : x13_7 = true
                  · subst c146
                    have H1 : (if t235 ≥ 1 then (if t235 ≤ 7 then (some (t236 == (wrap64 ((Int.tmod t235 7) + 1)))) else (some false)) else (some false)) = some r := by rw [if_pos rfl] at H; exact H
                    clear H
                    have H := H1
                    clear H1
                    by_cases c147 : t235 ≥ 1
                    · rw [if_pos c147] at H
                      have c147b0 : decide (1 ≤ t235) = true := decide_eq_true c147
                      clear c147
                      by_cases c148 : t235 ≤ 7
                      · rw [if_pos c148] at H
                        have c148b0 : decide (t235 ≤ 7) = true := decide_eq_true c148
                        clear c148
                        obtain rfl := Option.some.inj H
                        go_wp2
                        go_ret
                        exact ⟨by first | rfl | (simp [errW_none, errW_some] <;> rfl) | (simp [*, errW_none, errW_some] <;> rfl), by repeat (first | (with_reducible first | exact HB.out | apply below_alloc | apply pw_below_drewN | apply below_drew1) | exact HB.out)⟩
                      · rw [if_neg c148] at H
                        have c148b0 : decide (t235 ≤ 7) = false := decide_eq_false c148
                        clear c148
                        obtain rfl := Option.some.inj H
                        go_wp2
                        go_ret
                        exact ⟨by first | rfl | (simp [errW_none, errW_some] <;> rfl) | (simp [*, errW_none, errW_some] <;> rfl), by repeat (first | (with_reducible first | exact HB.out | apply below_alloc | apply pw_below_drewN | apply below_drew1) | exact HB.out)⟩
                    · rw [if_neg c147] at H
                      have c147b0 : decide (1 ≤ t235) = false := decide_eq_false c147
                      clear c147
                      obtain rfl := Option.some.inj H
                      go_wp2
                      go_ret
                      exact ⟨by first | rfl | (simp [errW_none, errW_some] <;> rfl) | (simp [*, errW_none, errW_some] <;> rfl), by repeat (first | (with_reducible first | exact HB.out | apply below_alloc | apply pw_below_drewN | apply below_drew1) | exact HB.out)⟩
                  · replace c146 := Bool.eq_false_iff.mpr c146
                    subst c146
                    have H1 : (some false) = some r := by rw [if_neg (show ¬ (false = true) by decide)] at H; exact H
                    clear H
                    have H := H1
                    clear H1
                    obtain rfl := Option.some.inj H
                    go_wp2
                    go_ret
                    exact ⟨by first | rfl | (simp [errW_none, errW_some] <;> rfl) | (simp [*, errW_none, errW_some] <;> rfl), by repeat (first | (with_reducible first | exact HB.out | apply below_alloc | apply pw_below_drewN | apply below_drew1) | exact HB.out)⟩
                · replace c145 := Bool.eq_false_iff.mpr c145
                  subst c145
                  have H1 : (some false) = some r := by rw [if_neg (show ¬ (false = true) by decide)] at H; exact H
                  clear H
                  have H := H1
                  clear H1
                  obtain rfl := Option.some.inj H
                  go_wp2
                  go_ret
                  exact ⟨by first | rfl | (simp [errW_none, errW_some] <;> rfl) | (simp [*, errW_none, errW_some] <;> rfl), by repeat (first | (with_reducible first | exact HB.out | apply below_alloc | apply pw_below_drewN | apply below_drew1) | exact HB.out)⟩
            · rw [if_neg c80] at H
              have c80b0 : (t232 == (wrap64 (t229 + 1))) = false := beq_eq_false_iff_ne.mpr c80
              have c80b1 : (t232 != (wrap64 (t229 + 1))) = true := bne_iff_ne.mpr c80
              by_cases c149 : t227 = true
              · subst c149
                have H1 : (if x13_7 = true then (if t235 ≥ 1 then (if t235 ≤ 7 then (some (t236 == (wrap64 ((Int.tmod t235 7) + 1)))) else (some false)) else (some false)) else (some false)) = some r := by rw [if_pos rfl] at H; exact H
                clear H
                have H := H1
                clear H1
                by_cases c150 : x13_7 = true
                · subst c150
                  have H1 : (if t235 ≥ 1 then (if t235 ≤ 7 then (some (t236 == (wrap64 ((Int.tmod t235 7) + 1)))) else (some false)) else (some false)) = some r := by rw [if_pos rfl] at H; exact H
                  clear H
                  have H := H1
                  clear H1
                  by_cases c151 : t235 ≥ 1
                  · rw [if_pos c151] at H
                    have c151b0 : decide (1 ≤ t235) = true := decide_eq_true c151
                    clear c151
                    by_cases c152 : t235 ≤ 7
                    · rw [if_pos c152] at H
                      have c152b0 : decide (t235 ≤ 7) = true := decide_eq_true c152
                      clear c152
                      obtain rfl := Option.some.inj H
                      go_wp2
                      go_ret
                      exact ⟨by first | rfl | (simp [errW_none, errW_some] <;> rfl) | (simp [*, errW_none, errW_some] <;> rfl), by repeat (first | (with_reducible first | exact HB.out | apply below_alloc | apply pw_below_drewN | apply below_drew1) | exact HB.out)⟩
                    · rw [if_neg c152] at H
                      have c152b0 : decide (t235 ≤ 7) = false := decide_eq_false c152
                      clear c152
                      obtain rfl := Option.some.inj H
                      go_wp2
                      go_ret
                      exact ⟨by first | rfl | (simp [errW_none, errW_some] <;> rfl) | (simp [*, errW_none, errW_some] <;> rfl), by repeat (first | (with_reducible first | exact HB.out | apply below_alloc | apply pw_below_drewN | apply below_drew1) | exact HB.out)⟩
                  · rw [if_neg c151] at H
                    have c151b0 : decide (1 ≤ t235) = false := decide_eq_false c151
                    clear c151
                    obtain rfl := Option.some.inj H
                    go_wp2
                    go_ret
                    exact ⟨by first | rfl | (simp [errW_none, errW_some] <;> rfl) | (simp [*, errW_none, errW_some] <;> rfl), by repeat (first | (with_reducible first | exact HB.out | apply below_alloc | apply pw_below_drewN | apply below_drew1) | exact HB.out)⟩
                · replace c150 := Bool.eq_false_iff.mpr c150
                  subst c150
                  have H1 : (some false) = some r := by rw [if_neg (show ¬ (false = true) by decide)] at H; exact H
                  clear H
                  have H := H1
                  clear H1
                  obtain rfl := Option.some.inj H
                  go_wp2
                  go_ret
                  exact ⟨by first | rfl | (simp [errW_none, errW_some] <;> rfl) | (simp [*, errW_none, errW_some] <;> rfl), by repeat (first | (with_reducible first | exact HB.out | apply below_alloc | apply pw_below_drewN | apply below_drew1) | exact HB.out)⟩
              · replace c149 := Bool.eq_false_iff.mpr c149
                subst c149
                have H1 : (some false) = some r := by rw [if_neg (show ¬ (false = true) by decide)] at H; exact H
                clear H
                have H := H1
                clear H1
                obtain rfl := Option.some.inj H
                go_wp2
                go_ret
                exact ⟨by first | rfl | (simp [errW_none, errW_some] <;> rfl) | (simp [*, errW_none, errW_some] <;> rfl), by repeat (first | (with_reducible first | exact HB.out | apply below_alloc | apply pw_below_drewN | apply below_drew1) | exact HB.out)⟩
        · rw [if_neg c20] at H
          have c20b0 : (t232 == t229) = false := beq_eq_false_iff_ne.mpr c20
          have c20b1 : (t232 != t229) = true := bne_iff_ne.mpr c20
          by_cases c153 : t232 = (wrap64 (t229 + 1))
          · rw [if_pos c153] at H
            have c153b0 : (t232 == (wrap64 (t229 + 1))) = true := beq_iff_eq.mpr c153
            have c153b1 : (t232 != (wrap64 (t229 + 1))) = false := bne_eq_false_iff_eq.mpr c153
            clear c153
            by_cases c154 : t233 = 1
            · rw [if_pos c154] at H
              have c154b0 : (t233 == 1) = true := beq_iff_eq.mpr c154
              have c154b1 : (t233 != 1) = false := bne_eq_false_iff_eq.mpr c154
              clear c154
              by_cases c155 : t230 = 12
              · rw [if_pos c155] at H
                have c155b0 : (t230 == 12) = true := beq_iff_eq.mpr c155
                have c155b1 : (t230 != 12) = false := bne_eq_false_iff_eq.mpr c155
                clear c155
                replace H := Option.bind_eq_some_iff.mp H
                obtain ⟨t247, A1560, H⟩ := H
                replace H : ((calendar_Month.f t228).bind fun t248 => (if t247 = (wrap64 (t248 + 1)) then ((calendar_Month.f t228).bind fun t249 => ((calendar_Length.f t249).bind fun t250 => (if t227 = true then (if x13_7 = true then (if t235 ≥ 1 then (if t235 ≤ 7 then (some (t236 == (wrap64 ((Int.tmod t235 7) + 1)))) else (some false)) else (some false)) else (if t231 = t250 then (if t235 ≥ 1 then (if t235 ≤ 7 then (some (t236 == (wrap64 ((Int.tmod t235 7) + 1)))) else (some false)) else (some false)) else (some false))) else (some false)))) else (if t227 = true then (if x13_7 = true then (if t235 ≥ 1 then (if t235 ≤ 7 then (some (t236 == (wrap64 ((Int.tmod t235 7) + 1)))) else (some false)) else (some false)) else (some false)) else (some false)))) = some r := H
                have A156 := Aside0.mk A1560
                clear A1560
                replace H := Option.bind_eq_some_iff.mp H
                obtain ⟨t248, A1570, H⟩ := H
                replace H : (if t247 = (wrap64 (t248 + 1)) then ((calendar_Month.f t228).bind fun t249 => ((calendar_Length.f t249).bind fun t250 => (if t227 = true then (if x13_7 = true then (if t235 ≥ 1 then (if t235 ≤ 7 then (some (t236 == (wrap64 ((Int.tmod t235 7) + 1)))) else (some false)) else (some false)) else (if t231 = t250 then (if t235 ≥ 1 then (if t235 ≤ 7 then (some (t236 == (wrap64 ((Int.tmod t235 7) + 1)))) else (some false)) else (some false)) else (some false))) else (some false)))) else (if t227 = true then (if x13_7 = true then (if t235 ≥ 1 then (if t235 ≤ 7 then (some (t236 == (wrap64 ((Int.tmod t235 7) + 1)))) else (some false)) else (some false)) else (some false)) else (some false))) = some r := H
                have A157 := Aside0.mk A1570
                clear A1570
                by_cases c158 : t247 = (wrap64 (t248 + 1))
                · rw [if_pos c158] at H
                  have c158b0 : (t247 == (wrap64 (t248 + 1))) = true := beq_iff_eq.mpr c158
                  have c158b1 : (t247 != (wrap64 (t248 + 1))) = false := bne_eq_false_iff_eq.mpr c158
                  clear c158
                  replace H := Option.bind_eq_some_iff.mp H
                  obtain ⟨t249, A1590, H⟩ := H
                  replace H : ((calendar_Length.f t249).bind fun t250 => (if t227 = true then (if x13_7 = true then (if t235 ≥ 1 then (if t235 ≤ 7 then (some (t236 == (wrap64 ((Int.tmod t235 7) + 1)))) else (some false)) else (some false)) else (if t231 = t250 then (if t235 ≥ 1 then (if t235 ≤ 7 then (some (t236 == (wrap64 ((Int.tmod t235 7) + 1)))) else (some false)) else (some false)) else (some false))) else (some false))) = some r := H
                  have A159 := Aside0.mk A1590
                  clear A1590
                  obtain rfl : t248 = t249 := Option.some.inj (A157.out.symm.trans A159.out)
                  replace H := Option.bind_eq_some_iff.mp H
                  obtain ⟨t250, A1600, H⟩ := H
                  replace H : (if t227 = true then (if x13_7 = true then (if t235 ≥ 1 then (if t235 ≤ 7 then (some (t236 == (wrap64 ((Int.tmod t235 7) + 1)))) else (some false)) else (some false)) else (if t231 = t250 then (if t235 ≥ 1 then (if t235 ≤ 7 then (some (t236 == (wrap64 ((Int.tmod t235 7) + 1)))) else (some false)) else (some false)) else (some false))) else (some false)) = some r := H
                  have A160 := Aside0.mk A1600
                  clear A1600
                  by_cases c161 : t227 = true
                  · subst c161
                    have H1 : (if x13_7 = true then (if t235 ≥ 1 then (if t235 ≤ 7 then (some (t236 == (wrap64 ((Int.tmod t235 7) + 1)))) else (some false)) else (some false)) else (if t231 = t250 then (if t235 ≥ 1 then (if t235 ≤ 7 then (some (t236 == (wrap64 ((Int.tmod t235 7) + 1)))) else (some false)) else (some false)) else (some false))) = some r := by rw [if_pos rfl] at H; exact H
                    clear H
                    have H := H1
                    clear H1
                    by_cases c162 : x13_7 = true
                    · subst c162
                      have H1 : (if t235 ≥ 1 then (if t235 ≤ 7 then (some (t236 == (wrap64 ((Int.tmod t235 7) + 1)))) else (some false)) else (some false)) = some r := by rw [if_pos rfl] at H; exact H
                      clear H
                      have H := H1
                      clear H1
                      by_cases c163 : t235 ≥ 1
                      · rw [if_pos c163] at H
                        have c163b0 : decide (1 ≤ t235) = true := decide_eq_true c163
                        clear c163
                        by_cases c164 : t235 ≤ 7
                        · rw [if_pos c164] at H
                          have c164b0 : decide (t235 ≤ 7) = true := decide_eq_true c164
                          clear c164
                          obtain rfl := Option.some.inj H
                          go_wp2_with (first | (go_at_call 17; (with_reducible refine (calendar_Month.calls (wrap64 (t228 + 1)) t247 _ A156.out (TabBefore.below hTBefore.out (by repeat (first | exact HB.out | exact Below.refl _ _ | apply below_alloc | apply pw_below_drewN | apply below_drew1 | apply below_drew)))).mono ?_); rintro e w165 ⟨rfl, hb⟩; have n0_ := Aside0.mk (below_step (by repeat (first | (with_reducible first | exact HB.out | apply below_alloc | apply pw_below_drewN | apply below_drew1) | exact HB.out)) hb); clear HB; have HB := n0_; clear n0_; (try clear hb); (try clear hb2); (try clear hk); (try clear hi)) | (go_at_call 17; (with_reducible refine (calendar_Month.calls t228 t248 _ A157.out (TabBefore.below hTBefore.out (by repeat (first | exact HB.out | exact Below.refl _ _ | apply below_alloc | apply pw_below_drewN | apply below_drew1 | apply below_drew)))).mono ?_); rintro e w166 ⟨rfl, hb⟩; have n0_ := Aside0.mk (below_step (by repeat (first | (with_reducible first | exact HB.out | apply below_alloc | apply pw_below_drewN | apply below_drew1) | exact HB.out)) hb); clear HB; have HB := n0_; clear n0_; (try clear hb); (try clear hb2); (try clear hk); (try clear hi)) | (go_at_call 17; (with_reducible refine (calendar_Month.calls t228 t248 _ A159.out (TabBefore.below hTBefore.out (by repeat (first | exact HB.out | exact Below.refl _ _ | apply below_alloc | apply pw_below_drewN | apply below_drew1 | apply below_drew)))).mono ?_); rintro e w167 ⟨rfl, hb⟩; have n0_ := Aside0.mk (below_step (by repeat (first | (with_reducible first | exact HB.out | apply below_alloc | apply pw_below_drewN | apply below_drew1) | exact HB.out)) hb); clear HB; have HB := n0_; clear n0_; (try clear hb); (try clear hb2); (try clear hk); (try clear hi)) | (go_at_call 23; (with_reducible refine (calendar_Length.calls t248 t250 _ A160.out (TabBefore.below hTBefore.out (by repeat (first | exact HB.out | exact Below.refl _ _ | apply below_alloc | apply pw_below_drewN | apply below_drew1 | apply below_drew)))).mono ?_); rintro e w168 ⟨rfl, hb⟩; have n0_ := Aside0.mk (below_step (by repeat (first | (with_reducible first | exact HB.out | apply below_alloc | apply pw_below_drewN | apply below_drew1) | exact HB.out)) hb); clear HB; have HB := n0_; clear n0_; (try clear hb); (try clear hb2); (try clear hk); (try clear hi)))
                          go_ret
                          exact ⟨by first | rfl | (simp [errW_none, errW_some] <;> rfl) | (simp [*, errW_none, errW_some] <;> rfl), by repeat (first | (with_reducible first | exact HB.out | apply below_alloc | apply pw_below_drewN | apply below_drew1) | exact HB.out)⟩
                        · rw [if_neg c164] at H
                          have c164b0 : decide (t235 ≤ 7) = false := decide_eq_false c164
                          clear c164
                          obtain rfl := Option.some.inj H
                          go_wp2_with (first | (go_at_call 17; (with_reducible refine (calendar_Month.calls (wrap64 (t228 + 1)) t247 _ A156.out (TabBefore.below hTBefore.out (by repeat (first | exact HB.out | exact Below.refl _ _ | apply below_alloc | apply pw_below_drewN | apply below_drew1 | apply below_drew)))).mono ?_); rintro e w169 ⟨rfl, hb⟩; have n0_ := Aside0.mk (below_step (by repeat (first | (with_reducible first | exact HB.out | apply below_alloc | apply pw_below_drewN | apply below_drew1) | exact HB.out)) hb); clear HB; have HB := n0_; clear n0_; (try clear hb); (try clear hb2); (try clear hk); (try clear hi)) | (go_at_call 17; (with_reducible refine (calendar_Month.calls t228 t248 _ A157.out (TabBefore.below hTBefore.out (by repeat (first | exact HB.out | exact Below.refl _ _ | apply below_alloc | apply pw_below_drewN | apply below_drew1 | apply below_drew)))).mono ?_); rintro e w170 ⟨rfl, hb⟩; have n0_ := Aside0.mk (below_step (by repeat (first | (with_reducible first | exact HB.out | apply below_alloc | apply pw_below_drewN | apply below_drew1) | exact HB.out)) hb); clear HB; have HB := n0_; clear n0_; (try clear hb); (try clear hb2); (try clear hk); (try clear hi)) | (go_at_call 17; (with_reducible refine (calendar_Month.calls t228 t248 _ A159.out (TabBefore.below hTBefore.out (by repeat (first | exact HB.out | exact Below.refl _ _ | apply below_alloc | apply pw_below_drewN | apply below_drew1 | apply below_drew)))).mono ?_); rintro e w171 ⟨rfl, hb⟩; have n0_ := Aside0.mk (below_step (by repeat (first | (with_reducible first | exact HB.out | apply below_alloc | apply pw_below_drewN | apply below_drew1) | exact HB.out)) hb); clear HB; have HB := n0_; clear n0_; (try clear hb); (try clear hb2); (try clear hk); (try clear hi)) | (go_at_call 23; (with_reducible refine (calendar_Length.calls t248 t250 _ A160.out (TabBefore.below hTBefore.out (by repeat (first | exact HB.out | exact Below.refl _ _ | apply below_alloc | apply pw_below_drewN | apply below_drew1 | apply below_drew)))).mono ?_); rintro e w172 ⟨rfl, hb⟩; have n0_ := Aside0.mk (below_step (by repeat (first | (with_reducible first | exact HB.out | apply below_alloc | apply pw_below_drewN | apply below_drew1) | exact HB.out)) hb); clear HB; have HB := n0_; clear n0_; (try clear hb); (try clear hb2); (try clear hk); (try clear hi)))
                          go_ret
                          exact ⟨by first | rfl | (simp [errW_none, errW_some] <;> rfl) | (simp [*, errW_none, errW_some] <;> rfl), by repeat (first | (with_reducible first | exact HB.out | apply below_alloc | apply pw_below_drewN | apply below_drew1) | exact HB.out)⟩
                      · rw [if_neg c163] at H
                        have c163b0 : decide (1 ≤ t235) = false := decide_eq_false c163
                        clear c163
                        obtain rfl := Option.some.inj H
                        go_wp2_with (first | (go_at_call 17; (with_reducible refine (calendar_Month.calls (wrap64 (t228 + 1)) t247 _ A156.out (TabBefore.below hTBefore.out (by repeat (first | exact HB.out | exact Below.refl _ _ | apply below_alloc | apply pw_below_drewN | apply below_drew1 | apply below_drew)))).mono ?_); rintro e w173 ⟨rfl, hb⟩; have n0_ := Aside0.mk (below_step (by repeat (first | (with_reducible first | exact HB.out | apply below_alloc | apply pw_below_drewN | apply below_drew1) | exact HB.out)) hb); clear HB; have HB := n0_; clear n0_; (try clear hb); (try clear hb2); (try clear hk); (try clear hi)) | (go_at_call 17; (with_reducible refine (calendar_Month.calls t228 t248 _ A157.out (TabBefore.below hTBefore.out (by repeat (first | exact HB.out | exact Below.refl _ _ | apply below_alloc | apply pw_below_drewN | apply below_drew1 | apply below_drew)))).mono ?_); rintro e w174 ⟨rfl, hb⟩; have n0_ := Aside0.mk (below_step (by repeat (first | (with_reducible first | exact HB.out | apply below_alloc | apply pw_below_drewN | apply below_drew1) | exact HB.out)) hb); clear HB; have HB := n0_; clear n0_; (try clear hb); (try clear hb2); (try clear hk); (try clear hi)) | (go_at_call 17; (with_reducible refine (calendar_Month.calls t228 t248 _ A159.out (TabBefore.below hTBefore.out (by repeat (first | exact HB.out | exact Below.refl _ _ | apply below_alloc | apply pw_below_drewN | apply below_drew1 | apply below_drew)))).mono ?_); rintro e w175 ⟨rfl, hb⟩; have n0_ := Aside0.mk (below_step (by repeat (first | (with_reducible first | exact HB.out | apply below_alloc | apply pw_below_drewN | apply below_drew1) | exact HB.out)) hb); clear HB; have HB := n0_; clear n0_; (try clear hb); (try clear hb2); (try clear hk); (try clear hi)) | (go_at_call 23; (with_reducible refine (calendar_Length.calls t248 t250 _ A160.out (TabBefore.below hTBefore.out (by repeat (first | exact HB.out | exact Below.refl _ _ | apply below_alloc | apply pw_below_drewN | apply below_drew1 | apply below_drew)))).mono ?_); rintro e w176 ⟨rfl, hb⟩; have n0_ := Aside0.mk (below_step (by repeat (first | (with_reducible first | exact HB.out | apply below_alloc | apply pw_below_drewN | apply below_drew1) | exact HB.out)) hb); clear HB; have HB := n0_; clear n0_; (try clear hb); (try clear hb2); (try clear hk); (try clear hi)))
                        go_ret
                        exact ⟨by first | rfl | (simp [errW_none, errW_some] <;> rfl) | (simp [*, errW_none, errW_some] <;> rfl), by repeat (first | (with_reducible first | exact HB.out | apply below_alloc | apply pw_below_drewN | apply below_drew1) | exact HB.out)⟩
                    · replace c162 := Bool.eq_false_iff.mpr c162
                      subst c162
                      have H1 : (if t231 = t250 then (if t235 ≥ 1 then (if t235 ≤ 7 then (some (t236 == (wrap64 ((Int.tmod t235 7) + 1)))) else (some false)) else (some false)) else (some false)) = some r := by rw [if_neg (show ¬ (false = true) by decide)] at H; exact H
                      clear H
                      have H := H1
                      clear H1
                      by_cases c177 : t231 = t250
                      · rw [if_pos c177] at H
                        have c177b0 : (t231 == t250) = true := beq_iff_eq.mpr c177
                        have c177b1 : (t231 != t250) = false := bne_eq_false_iff_eq.mpr c177
                        clear c177
                        by_cases c178 : t235 ≥ 1
                        · rw [if_pos c178] at H
                          have c178b0 : decide (1 ≤ t235) = true := decide_eq_true c178
                          clear c178
                          by_cases c179 : t235 ≤ 7
                          · rw [if_pos c179] at H
                            have c179b0 : decide (t235 ≤ 7) = true := decide_eq_true c179
                            clear c179
                            obtain rfl := Option.some.inj H
                            go_wp2_with (first | (go_at_call 17; (with_reducible refine (calendar_Month.calls (wrap64 (t228 + 1)) t247 _ A156.out (TabBefore.below hTBefore.out (by repeat (first | exact HB.out | exact Below.refl _ _ | apply below_alloc | apply pw_below_drewN | apply below_drew1 | apply below_drew)))).mono ?_); rintro e w180 ⟨rfl, hb⟩; have n0_ := Aside0.mk (below_step (by repeat (first | (with_reducible first | exact HB.out | apply below_alloc | apply pw_below_drewN | apply below_drew1) | exact HB.out)) hb); clear HB; have HB := n0_; clear n0_; (try clear hb); (try clear hb2); (try clear hk); (try clear hi)) | (go_at_call 17; (with_reducible refine (calendar_Month.calls t228 t248 _ A157.out (TabBefore.below hTBefore.out (by repeat (first | exact HB.out | exact Below.refl _ _ | apply below_alloc | apply pw_below_drewN | apply below_drew1 | apply below_drew)))).mono ?_); rintro e w181 ⟨rfl, hb⟩; have n0_ := Aside0.mk (below_step (by repeat (first | (with_reducible first | exact HB.out | apply below_alloc | apply pw_below_drewN | apply below_drew1) | exact HB.out)) hb); clear HB; have HB := n0_; clear n0_; (try clear hb); (try clear hb2); (try clear hk); (try clear hi)) | (go_at_call 17; (with_reducible refine (calendar_Month.calls t228 t248 _ A159.out (TabBefore.below hTBefore.out (by repeat (first | exact HB.out | exact Below.refl _ _ | apply below_alloc | apply pw_below_drewN | apply below_drew1 | apply below_drew)))).mono ?_); rintro e w182 ⟨rfl, hb⟩; have n0_ := Aside0.mk (below_step (by repeat (first | (with_reducible first | exact HB.out | apply below_alloc | apply pw_below_drewN | apply below_drew1) | exact HB.out)) hb); clear HB; have HB := n0_; clear n0_; (try clear hb); (try clear hb2); (try clear hk); (try clear hi)) | (go_at_call 23; (with_reducible refine (calendar_Length.calls t248 t250 _ A160.out (TabBefore.below hTBefore.out (by repeat (first | exact HB.out | exact Below.refl _ _ | apply below_alloc | apply pw_below_drewN | apply below_drew1 | apply below_drew)))).mono ?_); rintro e w183 ⟨rfl, hb⟩; have n0_ := Aside0.mk (below_step (by repeat (first | (with_reducible first | exact HB.out | apply below_alloc | apply pw_below_drewN | apply below_drew1) | exact HB.out)) hb); clear HB; have HB := n0_; clear n0_; (try clear hb); (try clear hb2); (try clear hk); (try clear hi)))
                            go_ret
                            exact ⟨by first | rfl | (simp [errW_none, errW_some] <;> rfl) | (simp [*, errW_none, errW_some] <;> rfl), by repeat (first | (with_reducible first | exact HB.out | apply below_alloc | apply pw_below_drewN | apply below_drew1) | exact HB.out)⟩
                          · rw [if_neg c179] at H
                            have c179b0 : decide (t235 ≤ 7) = false := decide_eq_false c179
                            clear c179
                            obtain rfl := Option.some.inj H
                            go_wp2_with (first | (go_at_call 17; (with_reducible refine (calendar_Month.calls (wrap64 (t228 + 1)) t247 _ A156.out (TabBefore.below hTBefore.out (by repeat (first | exact HB.out | exact Below.refl _ _ | apply below_alloc | apply pw_below_drewN | apply below_drew1 | apply below_drew)))).mono ?_); rintro e w184 ⟨rfl, hb⟩; have n0_ := Aside0.mk (below_step (by repeat (first | (with_reducible first | exact HB.out | apply below_alloc | apply pw_below_drewN | apply below_drew1) | exact HB.out)) hb); clear HB; have HB := n0_; clear n0_; (try clear hb); (try clear hb2); (try clear hk); (try clear hi)) | (go_at_call 17; (with_reducible refine (calendar_Month.calls t228 t248 _ A157.out (TabBefore.below hTBefore.out (by repeat (first | exact HB.out | exact Below.refl _ _ | apply below_alloc | apply pw_below_drewN | apply below_drew1 | apply below_drew)))).mono ?_); rintro e w185 ⟨rfl, hb⟩; have n0_ := Aside0.mk (below_step (by repeat (first | (with_reducible first | exact HB.out | apply below_alloc | apply pw_below_drewN | apply below_drew1) | exact HB.out)) hb); clear HB; have HB := n0_; clear n0_; (try clear hb); (try clear hb2); (try clear hk); (try clear hi)) | (go_at_call 17; (with_reducible refine (calendar_Month.calls t228 t248 _ A159.out (TabBefore.below hTBefore.out (by repeat (first | exact HB.out | exact Below.refl _ _ | apply below_alloc | apply pw_below_drewN | apply below_drew1 | apply below_drew)))).mono ?_); rintro e w186 ⟨rfl, hb⟩; have n0_ := Aside0.mk (below_step (by repeat (first | (with_reducible first | exact HB.out | apply below_alloc | apply pw_below_drewN | apply below_drew1) | exact HB.out)) hb); clear HB; have HB := n0_; clear n0_; (try clear hb); (try clear hb2); (try clear hk); (try clear hi)) | (go_at_call 23; (with_reducible refine (calendar_Length.calls t248 t250 _ A160.out (TabBefore.below hTBefore.out (by repeat (first | exact HB.out | exact Below.refl _ _ | apply below_alloc | apply pw_below_drewN | apply below_drew1 | apply below_drew)))).mono ?_); rintro e w187 ⟨rfl, hb⟩; have n0_ := Aside0.mk (below_step (by repeat (first | (with_reducible first | exact HB.out | apply below_alloc | apply pw_below_drewN | apply below_drew1) | exact HB.out)) hb); clear HB; have HB := n0_; clear n0_; (try clear hb); (try clear hb2); (try clear hk); (try clear hi)))
                            go_ret
                            exact ⟨by first | rfl | (simp [errW_none, errW_some] <;> rfl) | (simp [*, errW_none, errW_some] <;> rfl), by repeat (first | (with_reducible first | exact HB.out | apply below_alloc | apply pw_below_drewN | apply below_drew1) | exact HB.out)⟩
                        · rw [if_neg c178] at H
                          have c178b0 : decide (1 ≤ t235) = false := decide_eq_false c178
                          clear c178
                          obtain rfl := Option.some.inj H
                          go_wp2_with (first | (go_at_call 17; (with_reducible refine (calendar_Month.calls (wrap64 (t228 + 1)) t247 _ A156.out (TabBefore.below hTBefore.out (by repeat (first | exact HB.out | exact Below.refl _ _ | apply below_alloc | apply pw_below_drewN | apply below_drew1 | apply below_drew)))).mono ?_); rintro e w188 ⟨rfl, hb⟩; have n0_ := Aside0.mk (below_step (by repeat (first | (with_reducible first | exact HB.out | apply below_alloc | apply pw_below_drewN | apply below_drew1) | exact HB.out)) hb); clear HB; have HB := n0_; clear n0_; (try clear hb); (try clear hb2); (try clear hk); (try clear hi)) | (go_at_call 17; (with_reducible refine (calendar_Month.calls t228 t248 _ A157.out (TabBefore.below hTBefore.out (by repeat (first | exact HB.out | exact Below.refl _ _ | apply below_alloc | apply pw_below_drewN | apply below_drew1 | apply below_drew)))).mono ?_); rintro e w189 ⟨rfl, hb⟩; have n0_ := Aside0.mk (below_step (by repeat (first | (with_reducible first | exact HB.out | apply below_alloc | apply pw_below_drewN | apply below_drew1) | exact HB.out)) hb); clear HB; have HB := n0_; clear n0_; (try clear hb); (try clear hb2); (try clear hk); (try clear hi)) | (go_at_call 17; (with_reducible refine (calendar_Month.calls t228 t248 _ A159.out (TabBefore.below hTBefore.out (by repeat (first | exact HB.out | exact Below.refl _ _ | apply below_alloc | apply pw_below_drewN | apply below_drew1 | apply below_drew)))).mono ?_); rintro e w190 ⟨rfl, hb⟩; have n0_ := Aside0.mk (below_step (by repeat (first | (with_reducible first | exact HB.out | apply below_alloc | apply pw_below_drewN | apply below_drew1) | exact HB.out)) hb); clear HB; have HB := n0_; clear n0_; (try clear hb); (try clear hb2); (try clear hk); (try clear hi)) | (go_at_call 23; (with_reducible refine (calendar_Length.calls t248 t250 _ A160.out (TabBefore.below hTBefore.out (by repeat (first | exact HB.out | exact Below.refl _ _ | apply below_alloc | apply pw_below_drewN | apply below_drew1 | apply below_drew)))).mono ?_); rintro e w191 ⟨rfl, hb⟩; have n0_ := Aside0.mk (below_step (by repeat (first | (with_reducible first | exact HB.out | apply below_alloc | apply pw_below_drewN | apply below_drew1) | exact HB.out)) hb); clear HB; have HB := n0_; clear n0_; (try clear hb); (try clear hb2); (try clear hk); (try clear hi)))
                          go_ret
                          exact ⟨by first | rfl | (simp [errW_none, errW_some] <;> rfl) | (simp [*, errW_none, errW_some] <;> rfl), by repeat (first | (with_reducible first | exact HB.out | apply below_alloc | apply pw_below_drewN | apply below_drew1) | exact HB.out)⟩
                      · rw [if_neg c177] at H
                        have c177b0 : (t231 == t250) = false := beq_eq_false_iff_ne.mpr c177
                        have c177b1 : (t231 != t250) = true := bne_iff_ne.mpr c177
                        obtain rfl := Option.some.inj H
                        go_wp2_with (first | (go_at_call 17; (with_reducible refine (calendar_Month.calls (wrap64 (t228 + 1)) t247 _ A156.out (TabBefore.below hTBefore.out (by repeat (first | exact HB.out | exact Below.refl _ _ | apply below_alloc | apply pw_below_drewN | apply below_drew1 | apply below_drew)))).mono ?_); rintro e w192 ⟨rfl, hb⟩; have n0_ := Aside0.mk (below_step (by repeat (first | (with_reducible first | exact HB.out | apply below_alloc | apply pw_below_drewN | apply below_drew1) | exact HB.out)) hb); clear HB; have HB := n0_; clear n0_; (try clear hb); (try clear hb2); (try clear hk); (try clear hi)) | (go_at_call 17; (with_reducible refine (calendar_Month.calls t228 t248 _ A157.out (TabBefore.below hTBefore.out (by repeat (first | exact HB.out | exact Below.refl _ _ | apply below_alloc | apply pw_below_drewN | apply below_drew1 | apply below_drew)))).mono ?_); rintro e w193 ⟨rfl, hb⟩; have n0_ := Aside0.mk (below_step (by repeat (first | (with_reducible first | exact HB.out | apply below_alloc | apply pw_below_drewN | apply below_drew1) | exact HB.out)) hb); clear HB; have HB := n0_; clear n0_; (try clear hb); (try clear hb2); (try clear hk); (try clear hi)) | (go_at_call 17; (with_reducible refine (calendar_Month.calls t228 t248 _ A159.out (TabBefore.below hTBefore.out (by repeat (first | exact HB.out | exact Below.refl _ _ | apply below_alloc | apply pw_below_drewN | apply below_drew1 | apply below_drew)))).mono ?_); rintro e w194 ⟨rfl, hb⟩; have n0_ := Aside0.mk (below_step (by repeat (first | (with_reducible first | exact HB.out | apply below_alloc | apply pw_below_drewN | apply below_drew1) | exact HB.out)) hb); clear HB; have HB := n0_; clear n0_; (try clear hb); (try clear hb2); (try clear hk); (try clear hi)) | (go_at_call 23; (with_reducible refine (calendar_Length.calls t248 t250 _ A160.out (TabBefore.below hTBefore.out (by repeat (first | exact HB.out | exact Below.refl _ _ | apply below_alloc | apply pw_below_drewN | apply below_drew1 | apply below_drew)))).mono ?_); rintro e w195 ⟨rfl, hb⟩; have n0_ := Aside0.mk (below_step (by repeat (first | (with_reducible first | exact HB.out | apply below_alloc | apply pw_below_drewN | apply below_drew1) | exact HB.out)) hb); clear HB; have HB := n0_; clear n0_; (try clear hb); (try clear hb2); (try clear hk); (try clear hi)))
                        go_ret
                        exact ⟨by first | rfl | (simp [errW_none, errW_some] <;> rfl) | (simp [*, errW_none, errW_some] <;> rfl), by repeat (first | (with_reducible first | exact HB.out | apply below_alloc | apply pw_below_drewN | apply below_drew1) | exact HB.out)⟩
                  · replace c161 := Bool.eq_false_iff.mpr c161
                    subst c161
                    have H1 : (some false) = some r := by rw [if_neg (show ¬ (false = true) by decide)] at H; exact H
                    clear H
                    have H := H1
                    clear H1
                    obtain rfl := Option.some.inj H
                    go_wp2_with (first | (go_at_call 17; (with_reducible refine (calendar_Month.calls (wrap64 (t228 + 1)) t247 _ A156.out (TabBefore.below hTBefore.out (by repeat (first | exact HB.out | exact Below.refl _ _ | apply below_alloc | apply pw_below_drewN | apply below_drew1 | apply below_drew)))).mono ?_); rintro e w196 ⟨rfl, hb⟩; have n0_ := Aside0.mk (below_step (by repeat (first | (with_reducible first | exact HB.out | apply below_alloc | apply pw_below_drewN | apply below_drew1) | exact HB.out)) hb); clear HB; have HB := n0_; clear n0_; (try clear hb); (try clear hb2); (try clear hk); (try clear hi)) | (go_at_call 17; (with_reducible refine (calendar_Month.calls t228 t248 _ A157.out (TabBefore.below hTBefore.out (by repeat (first | exact HB.out | exact Below.refl _ _ | apply below_alloc | apply pw_below_drewN | apply below_drew1 | apply below_drew)))).mono ?_); rintro e w197 ⟨rfl, hb⟩; have n0_ := Aside0.mk (below_step (by repeat (first | (with_reducible first | exact HB.out | apply below_alloc | apply pw_below_drewN | apply below_drew1) | exact HB.out)) hb); clear HB; have HB := n0_; clear n0_; (try clear hb); (try clear hb2); (try clear hk); (try clear hi)) | (go_at_call 17; (with_reducible refine (calendar_Month.calls t228 t248 _ A159.out (TabBefore.below hTBefore.out (by repeat (first | exact HB.out | exact Below.refl _ _ | apply below_alloc | apply pw_below_drewN | apply below_drew1 | apply below_drew)))).mono ?_); rintro e w198 ⟨rfl, hb⟩; have n0_ := Aside0.mk (below_step (by repeat (first | (with_reducible first | exact HB.out | apply below_alloc | apply pw_below_drewN | apply below_drew1) | exact HB.out)) hb); clear HB; have HB := n0_; clear n0_; (try clear hb); (try clear hb2); (try clear hk); (try clear hi)) | (go_at_call 23; (with_reducible refine (calendar_Length.calls t248 t250 _ A160.out (TabBefore.below hTBefore.out (by repeat (first | exact HB.out | exact Below.refl _ _ | apply below_alloc | apply pw_below_drewN | apply below_drew1 | apply below_drew)))).mono ?_); rintro e w199 ⟨rfl, hb⟩; have n0_ := Aside0.mk (below_step (by repeat (first | (with_reducible first | exact HB.out | apply below_alloc | apply pw_below_drewN | apply below_drew1) | exact HB.out)) hb); clear HB; have HB := n0_; clear n0_; (try clear hb); (try clear hb2); (try clear hk); (try clear hi)))
                    go_ret
                    exact ⟨by first | rfl | (simp [errW_none, errW_some] <;> rfl) | (simp [*, errW_none, errW_some] <;> rfl), by repeat (first | (with_reducible first | exact HB.out | apply below_alloc | apply pw_below_drewN | apply below_drew1) | exact HB.out)⟩
                · rw [if_neg c158] at H
                  have c158b0 : (t247 == (wrap64 (t248 + 1))) = false := beq_eq_false_iff_ne.mpr c158
                  have c158b1 : (t247 != (wrap64 (t248 + 1))) = true := bne_iff_ne.mpr c158
                  by_cases c200 : t227 = true
                  · subst c200
                    have H1 : (if x13_7 = true then (if t235 ≥ 1 then (if t235 ≤ 7 then (some (t236 == (wrap64 ((Int.tmod t235 7) + 1)))) else (some false)) else (some false)) else (some false)) = some r := by rw [if_pos rfl] at H; exact H
                    clear H
                    have H := H1
                    clear H1
                    by_cases c201 : x13_7 = true
                    · subst c201
                      have H1 : (if t235 ≥ 1 then (if t235 ≤ 7 then (some (t236 == (wrap64 ((Int.tmod t235 7) + 1)))) else (some false)) else (some false)) = some r := by rw [if_pos rfl] at H; exact H
                      clear H
                      have H := H1
                      clear H1
                      by_cases c202 : t235 ≥ 1
                      · rw [if_pos c202] at H
                        have c202b0 : decide (1 ≤ t235) = true := decide_eq_true c202
                        clear c202
                        by_cases c203 : t235 ≤ 7
                        · rw [if_pos c203] at H
                          have c203b0 : decide (t235 ≤ 7) = true := decide_eq_true c203
                          clear c203
                          obtain rfl := Option.some.inj H
                          go_wp2_with (first | (go_at_call 17; (with_reducible refine (calendar_Month.calls (wrap64 (t228 + 1)) t247 _ A156.out (TabBefore.below hTBefore.out (by repeat (first | exact HB.out | exact Below.refl _ _ | apply below_alloc | apply pw_below_drewN | apply below_drew1 | apply below_drew)))).mono ?_); rintro e w204 ⟨rfl, hb⟩; have n0_ := Aside0.mk (below_step (by repeat (first | (with_reducible first | exact HB.out | apply below_alloc | apply pw_below_drewN | apply below_drew1) | exact HB.out)) hb); clear HB; have HB := n0_; clear n0_; (try clear hb); (try clear hb2); (try clear hk); (try clear hi)) | (go_at_call 17; (with_reducible refine (calendar_Month.calls t228 t248 _ A157.out (TabBefore.below hTBefore.out (by repeat (first | exact HB.out | exact Below.refl _ _ | apply below_alloc | apply pw_below_drewN | apply below_drew1 | apply below_drew)))).mono ?_); rintro e w205 ⟨rfl, hb⟩; have n0_ := Aside0.mk (below_step (by repeat (first | (with_reducible first | exact HB.out | apply below_alloc | apply pw_below_drewN | apply below_drew1) | exact HB.out)) hb); clear HB; have HB := n0_; clear n0_; (try clear hb); (try clear hb2); (try clear hk); (try clear hi)))
                          go_ret
                          exact ⟨by first | rfl | (simp [errW_none, errW_some] <;> rfl) | (simp [*, errW_none, errW_some] <;> rfl), by repeat (first | (with_reducible first | exact HB.out | apply below_alloc | apply pw_below_drewN | apply below_drew1) | exact HB.out)⟩
                        · rw [if_neg c203] at H
                          have c203b0 : decide (t235 ≤ 7) = false := decide_eq_false c203
                          clear c203
                          obtain rfl := Option.some.inj H
                          go_wp2_with (first | (go_at_call 17; (with_reducible refine (calendar_Month.calls (wrap64 (t228 + 1)) t247 _ A156.out (TabBefore.below hTBefore.out (by repeat (first | exact HB.out | exact Below.refl _ _ | apply below_alloc | apply pw_below_drewN | apply below_drew1 | apply below_drew)))).mono ?_); rintro e w206 ⟨rfl, hb⟩; have n0_ := Aside0.mk (below_step (by repeat (first | (with_reducible first | exact HB.out | apply below_alloc | apply pw_below_drewN | apply below_drew1) | exact HB.out)) hb); clear HB; have HB := n0_; clear n0_; (try clear hb); (try clear hb2); (try clear hk); (try clear hi)) | (go_at_call 17; (with_reducible refine (calendar_Month.calls t228 t248 _ A157.out (TabBefore.below hTBefore.out (by repeat (first | exact HB.out | exact Below.refl _ _ | apply below_alloc | apply pw_below_drewN | apply below_drew1 | apply below_drew)))).mono ?_); rintro e w207 ⟨rfl, hb⟩; have n0_ := Aside0.mk (below_step (by repeat (first | (with_reducible first | exact HB.out | apply below_alloc | apply pw_below_drewN | apply below_drew1) | exact HB.out)) hb); clear HB; have HB := n0_; clear n0_; (try clear hb); (try clear hb2); (try clear hk); (try clear hi)))
                          go_ret
                          exact ⟨by first | rfl | (simp [errW_none, errW_some] <;> rfl) | (simp [*, errW_none, errW_some] <;> rfl), by repeat (first | (with_reducible first | exact HB.out | apply below_alloc | apply pw_below_drewN | apply below_drew1) | exact HB.out)⟩
                      · rw [if_neg c202] at H
                        have c202b0 : decide (1 ≤ t235) = false := decide_eq_false c202
                        clear c202
                        obtain rfl := Option.some.inj H
                        go_wp2_with (first | (go_at_call 17; (with_reducible refine (calendar_Month.calls (wrap64 (t228 + 1)) t247 _ A156.out (TabBefore.below hTBefore.out (by repeat (first | exact HB.out | exact Below.refl _ _ | apply below_alloc | apply pw_below_drewN | apply below_drew1 | apply below_drew)))).mono ?_); rintro e w208 ⟨rfl, hb⟩; have n0_ := Aside0.mk (below_step (by repeat (first | (with_reducible first | exact HB.out | apply below_alloc | apply pw_below_drewN | apply below_drew1) | exact HB.out)) hb); clear HB; have HB := n0_; clear n0_; (try clear hb); (try clear hb2); (try clear hk); (try clear hi)) | (go_at_call 17; (with_reducible refine (calendar_Month.calls t228 t248 _ A157.out (TabBefore.below hTBefore.out (by repeat (first | exact HB.out | exact Below.refl _ _ | apply below_alloc | apply pw_below_drewN | apply below_drew1 | apply below_drew)))).mono ?_); rintro e w209 ⟨rfl, hb⟩; have n0_ := Aside0.mk (below_step (by repeat (first | (with_reducible first | exact HB.out | apply below_alloc | apply pw_below_drewN | apply below_drew1) | exact HB.out)) hb); clear HB; have HB := n0_; clear n0_; (try clear hb); (try clear hb2); (try clear hk); (try clear hi)))
                        go_ret
                        exact ⟨by first | rfl | (simp [errW_none, errW_some] <;> rfl) | (simp [*, errW_none, errW_some] <;> rfl), by repeat (first | (with_reducible first | exact HB.out | apply below_alloc | apply pw_below_drewN | apply below_drew1) | exact HB.out)⟩
                    · replace c201 := Bool.eq_false_iff.mpr c201
                      subst c201
                      have H1 : (some false) = some r := by rw [if_neg (show ¬ (false = true) by decide)] at H; exact H
                      clear H
                      have H := H1
                      clear H1
                      obtain rfl := Option.some.inj H
                      go_wp2_with (first | (go_at_call 17; (with_reducible refine (calendar_Month.calls (wrap64 (t228 + 1)) t247 _ A156.out (TabBefore.below hTBefore.out (by repeat (first | exact HB.out | exact Below.refl _ _ | apply below_alloc | apply pw_below_drewN | apply below_drew1 | apply below_drew)))).mono ?_); rintro e w210 ⟨rfl, hb⟩; have n0_ := Aside0.mk (below_step (by repeat (first | (with_reducible first | exact HB.out | apply below_alloc | apply pw_below_drewN | apply below_drew1) | exact HB.out)) hb); clear HB; have HB := n0_; clear n0_; (try clear hb); (try clear hb2); (try clear hk); (try clear hi)) | (go_at_call 17; (with_reducible refine (calendar_Month.calls t228 t248 _ A157.out (TabBefore.below hTBefore.out (by repeat (first | exact HB.out | exact Below.refl _ _ | apply below_alloc | apply pw_below_drewN | apply below_drew1 | apply below_drew)))).mono ?_); rintro e w211 ⟨rfl, hb⟩; have n0_ := Aside0.mk (below_step (by repeat (first | (with_reducible first | exact HB.out | apply below_alloc | apply pw_below_drewN | apply below_drew1) | exact HB.out)) hb); clear HB; have HB := n0_; clear n0_; (try clear hb); (try clear hb2); (try clear hk); (try clear hi)))
                      go_ret
                      exact ⟨by first | rfl | (simp [errW_none, errW_some] <;> rfl) | (simp [*, errW_none, errW_some] <;> rfl), by repeat (first | (with_reducible first | exact HB.out | apply below_alloc | apply pw_below_drewN | apply below_drew1) | exact HB.out)⟩
                  · replace c200 := Bool.eq_false_iff.mpr c200
                    subst c200
                    have H1 : (some false) = some r := by rw [if_neg (show ¬ (false = true) by decide)] at H; exact H
                    clear H
                    have H := H1
                    clear H1
                    obtain rfl := Option.some.inj H
                    go_wp2_with (first | (go_at_call 17; (with_reducible refine (calendar_Month.calls (wrap64 (t228 + 1)) t247 _ A156.out (TabBefore.below hTBefore.out (by repeat (first | exact HB.out | exact Below.refl _ _ | apply below_alloc | apply pw_below_drewN | apply below_drew1 | apply below_drew)))).mono ?_); rintro e w212 ⟨rfl, hb⟩; have n0_ := Aside0.mk (below_step (by repeat (first | (with_reducible first | exact HB.out | apply below_alloc | apply pw_below_drewN | apply below_drew1) | exact HB.out)) hb); clear HB; have HB := n0_; clear n0_; (try clear hb); (try clear hb2); (try clear hk); (try clear hi)) | (go_at_call 17; (with_reducible refine (calendar_Month.calls t228 t248 _ A157.out (TabBefore.below hTBefore.out (by repeat (first | exact HB.out | exact Below.refl _ _ | apply below_alloc | apply pw_below_drewN | apply below_drew1 | apply below_drew)))).mono ?_); rintro e w213 ⟨rfl, hb⟩; have n0_ := Aside0.mk (below_step (by repeat (first | (with_reducible first | exact HB.out | apply below_alloc | apply pw_below_drewN | apply below_drew1) | exact HB.out)) hb); clear HB; have HB := n0_; clear n0_; (try clear hb); (try clear hb2); (try clear hk); (try clear hi)))
                    go_ret
                    exact ⟨by first | rfl | (simp [errW_none, errW_some] <;> rfl) | (simp [*, errW_none, errW_some] <;> rfl), by repeat (first | (with_reducible first | exact HB.out | apply below_alloc | apply pw_below_drewN | apply below_drew1) | exact HB.out)⟩
              · rw [if_neg c155] at H
                have c155b0 : (t230 == 12) = false := beq_eq_false_iff_ne.mpr c155
                have c155b1 : (t230 != 12) = true := bne_iff_ne.mpr c155
                by_cases c214 : t227 = true
                · subst c214
                  have H1 : (if x13_7 = true then (if t235 ≥ 1 then (if t235 ≤ 7 then (some (t236 == (wrap64 ((Int.tmod t235 7) + 1)))) else (some false)) else (some false)) else (some false)) = some r := by rw [if_pos rfl] at H; exact H
                  clear H
                  have H := H1
                  clear H1
                  by_cases c215 : x13_7 = true
                  · subst c215
                    have H1 : (if t235 ≥ 1 then (if t235 ≤ 7 then (some (t236 == (wrap64 ((Int.tmod t235 7) + 1)))) else (some false)) else (some false)) = some r := by rw [if_pos rfl] at H; exact H
                    clear H
                    have H := H1
                    clear H1
                    by_cases c216 : t235 ≥ 1
                    · rw [if_pos c216] at H
                      have c216b0 : decide (1 ≤ t235) = true := decide_eq_true c216
                      clear c216
                      by_cases c217 : t235 ≤ 7
                      · rw [if_pos c217] at H
                        have c217b0 : decide (t235 ≤ 7) = true := decide_eq_true c217
                        clear c217
                        obtain rfl := Option.some.inj H
                        go_wp2
                        go_ret
                        exact ⟨by first | rfl | (simp [errW_none, errW_some] <;> rfl) | (simp [*, errW_none, errW_some] <;> rfl), by repeat (first | (with_reducible first | exact HB.out | apply below_alloc | apply pw_below_drewN | apply below_drew1) | exact HB.out)⟩
                      · rw [if_neg c217] at H
                        have c217b0 : decide (t235 ≤ 7) = false := decide_eq_false c217
                        clear c217
                        obtain rfl := Option.some.inj H
                        go_wp2
                        go_ret
                        exact ⟨by first | rfl | (simp [errW_none, errW_some] <;> rfl) | (simp [*, errW_none, errW_some] <;> rfl), by repeat (first | (with_reducible first | exact HB.out | apply below_alloc | apply pw_below_drewN | apply below_drew1) | exact HB.out)⟩
                    · rw [if_neg c216] at H
                      have c216b0 : decide (1 ≤ t235) = false := decide_eq_false c216
                      clear c216
                      obtain rfl := Option.some.inj H
                      go_wp2
                      go_ret
                      exact ⟨by first | rfl | (simp [errW_none, errW_some] <;> rfl) | (simp [*, errW_none, errW_some] <;> rfl), by repeat (first | (with_reducible first | exact HB.out | apply below_alloc | apply pw_below_drewN | apply below_drew1) | exact HB.out)⟩
                  · replace c215 := Bool.eq_false_iff.mpr c215
                    subst c215
                    have H1 : (some false) = some r := by rw [if_neg (show ¬ (false = true) by decide)] at H; exact H
                    clear H
                    have H := H1
                    clear H1
                    obtain rfl := Option.some.inj H
                    go_wp2
                    go_ret
                    exact ⟨by first | rfl | (simp [errW_none, errW_some] <;> rfl) | (simp [*, errW_none, errW_some] <;> rfl), by repeat (first | (with_reducible first | exact HB.out | apply below_alloc | apply pw_below_drewN | apply below_drew1) | exact HB.out)⟩
                · replace c214 := Bool.eq_false_iff.mpr c214
                  subst c214
                  have H1 : (some false) = some r := by rw [if_neg (show ¬ (false = true) by decide)] at H; exact H
                  clear H
                  have H := H1
                  clear H1
                  obtain rfl := Option.some.inj H
                  go_wp2
                  go_ret
                  exact ⟨by first | rfl | (simp [errW_none, errW_some] <;> rfl) | (simp [*, errW_none, errW_some] <;> rfl), by repeat (first | (with_reducible first | exact HB.out | apply below_alloc | apply pw_below_drewN | apply below_drew1) | exact HB.out)⟩
            · rw [if_neg c154] at H
              have c154b0 : (t233 == 1) = false := beq_eq_false_iff_ne.mpr c154
              have c154b1 : (t233 != 1) = true := bne_iff_ne.mpr c154
              by_cases c218 : t227 = true
              · subst c218
                have H1 : (if x13_7 = true then (if t235 ≥ 1 then (if t235 ≤ 7 then (some (t236 == (wrap64 ((Int.tmod t235 7) + 1)))) else (some false)) else (some false)) else (some false)) = some r := by rw [if_pos rfl] at H; exact H
                clear H
                have H := H1
                clear H1
                by_cases c219 : x13_7 = true
                · subst c219
                  have H1 : (if t235 ≥ 1 then (if t235 ≤ 7 then (some (t236 == (wrap64 ((Int.tmod t235 7) + 1)))) else (some false)) else (some false)) = some r := by rw [if_pos rfl] at H; exact H
                  clear H
                  have H := H1
                  clear H1
                  by_cases c220 : t235 ≥ 1
                  · rw [if_pos c220] at H
                    have c220b0 : decide (1 ≤ t235) = true := decide_eq_true c220
                    clear c220
                    by_cases c221 : t235 ≤ 7
                    · rw [if_pos c221] at H
                      have c221b0 : decide (t235 ≤ 7) = true := decide_eq_true c221
                      clear c221
                      obtain rfl := Option.some.inj H
                      go_wp2
                      go_ret
                      exact ⟨by first | rfl | (simp [errW_none, errW_some] <;> rfl) | (simp [*, errW_none, errW_some] <;> rfl), by repeat (first | (with_reducible first | exact HB.out | apply below_alloc | apply pw_below_drewN | apply below_drew1) | exact HB.out)⟩
                    · rw [if_neg c221] at H
                      have c221b0 : decide (t235 ≤ 7) = false := decide_eq_false c221
                      clear c221
                      obtain rfl := Option.some.inj H
                      go_wp2
                      go_ret
                      exact ⟨by first | rfl | (simp [errW_none, errW_some] <;> rfl) | (simp [*, errW_none, errW_some] <;> rfl), by repeat (first | (with_reducible first | exact HB.out | apply below_alloc | apply pw_below_drewN | apply below_drew1) | exact HB.out)⟩
                  · rw [if_neg c220] at H
                    have c220b0 : decide (1 ≤ t235) = false := decide_eq_false c220
                    clear c220
                    obtain rfl := Option.some.inj H
                    go_wp2
                    go_ret
                    exact ⟨by first | rfl | (simp [errW_none, errW_some] <;> rfl) | (simp [*, errW_none, errW_some] <;> rfl), by repeat (first | (with_reducible first | exact HB.out | apply below_alloc | apply pw_below_drewN | apply below_drew1) | exact HB.out)⟩
                · replace c219 := Bool.eq_false_iff.mpr c219
                  subst c219
                  have H1 : (some false) = some r := by rw [if_neg (show ¬ (false = true) by decide)] at H; exact H
                  clear H
                  have H := H1
                  clear H1
                  obtain rfl := Option.some.inj H
                  go_wp2
                  go_ret
                  exact ⟨by first | rfl | (simp [errW_none, errW_some] <;> rfl) | (simp [*, errW_none, errW_some] <;> rfl), by repeat (first | (with_reducible first | exact HB.out | apply below_alloc | apply pw_below_drewN | apply below_drew1) | exact HB.out)⟩
              · replace c218 := Bool.eq_false_iff.mpr c218
                subst c218
                have H1 : (some false) = some r := by rw [if_neg (show ¬ (false = true) by decide)] at H; exact H
                clear H
                have H := H1
                clear H1
                obtain rfl := Option.some.inj H
                go_wp2
                go_ret
                exact ⟨by first | rfl | (simp [errW_none, errW_some] <;> rfl) | (simp [*, errW_none, errW_some] <;> rfl), by repeat (first | (with_reducible first | exact HB.out | apply below_alloc | apply pw_below_drewN | apply below_drew1) | exact HB.out)⟩
          · rw [if_neg c153] at H
            have c153b0 : (t232 == (wrap64 (t229 + 1))) = false := beq_eq_false_iff_ne.mpr c153
            have c153b1 : (t232 != (wrap64 (t229 + 1))) = true := bne_iff_ne.mpr c153
            by_cases c222 : t227 = true
            · subst c222
              have H1 : (if x13_7 = true then (if t235 ≥ 1 then (if t235 ≤ 7 then (some (t236 == (wrap64 ((Int.tmod t235 7) + 1)))) else (some false)) else (some false)) else (some false)) = some r := by rw [if_pos rfl] at H; exact H
              clear H
              have H := H1
              clear H1
              by_cases c223 : x13_7 = true
              · subst c223
                have H1 : (if t235 ≥ 1 then (if t235 ≤ 7 then (some (t236 == (wrap64 ((Int.tmod t235 7) + 1)))) else (some false)) else (some false)) = some r := by rw [if_pos rfl] at H; exact H
                clear H
                have H := H1
                clear H1
                by_cases c224 : t235 ≥ 1
                · rw [if_pos c224] at H
                  have c224b0 : decide (1 ≤ t235) = true := decide_eq_true c224
                  clear c224
                  by_cases c225 : t235 ≤ 7
                  · rw [if_pos c225] at H
                    have c225b0 : decide (t235 ≤ 7) = true := decide_eq_true c225
                    clear c225
                    obtain rfl := Option.some.inj H
                    go_wp2
                    go_ret
                    exact ⟨by first | rfl | (simp [errW_none, errW_some] <;> rfl) | (simp [*, errW_none, errW_some] <;> rfl), by repeat (first | (with_reducible first | exact HB.out | apply below_alloc | apply pw_below_drewN | apply below_drew1) | exact HB.out)⟩
                  · rw [if_neg c225] at H
                    have c225b0 : decide (t235 ≤ 7) = false := decide_eq_false c225
                    clear c225
                    obtain rfl := Option.some.inj H
                    go_wp2
                    go_ret
                    exact ⟨by first | rfl | (simp [errW_none, errW_some] <;> rfl) | (simp [*, errW_none, errW_some] <;> rfl), by repeat (first | (with_reducible first | exact HB.out | apply below_alloc | apply pw_below_drewN | apply below_drew1) | exact HB.out)⟩
                · rw [if_neg c224] at H
                  have c224b0 : decide (1 ≤ t235) = false := decide_eq_false c224
                  clear c224
                  obtain rfl := Option.some.inj H
                  go_wp2
                  go_ret
                  exact ⟨by first | rfl | (simp [errW_none, errW_some] <;> rfl) | (simp [*, errW_none, errW_some] <;> rfl), by repeat (first | (with_reducible first | exact HB.out | apply below_alloc | apply pw_below_drewN | apply below_drew1) | exact HB.out)⟩
              · replace c223 := Bool.eq_false_iff.mpr c223
                subst c223
                have H1 : (some false) = some r := by rw [if_neg (show ¬ (false = true) by decide)] at H; exact H
                clear H
                have H := H1
                clear H1
                obtain rfl := Option.some.inj H
                go_wp2
                go_ret
                exact ⟨by first | rfl | (simp [errW_none, errW_some] <;> rfl) | (simp [*, errW_none, errW_some] <;> rfl), by repeat (first | (with_reducible first | exact HB.out | apply below_alloc | apply pw_below_drewN | apply below_drew1) | exact HB.out)⟩
            · replace c222 := Bool.eq_false_iff.mpr c222
              subst c222
              have H1 : (some false) = some r := by rw [if_neg (show ¬ (false = true) by decide)] at H; exact H
              clear H
              have H := H1
              clear H1
              obtain rfl := Option.some.inj H
              go_wp2
              go_ret
              exact ⟨by first | rfl | (simp [errW_none, errW_some] <;> rfl) | (simp [*, errW_none, errW_some] <;> rfl), by repeat (first | (with_reducible first | exact HB.out | apply below_alloc | apply pw_below_drewN | apply below_drew1) | exact HB.out)⟩
      · rw [if_neg c19] at H
        have c19b0 : (t234 == 1) = false := beq_eq_false_iff_ne.mpr c19
        have c19b1 : (t234 != 1) = true := bne_iff_ne.mpr c19
        by_cases c226 : t227 = true
        · subst c226
          have H1 : (if x13_7 = true then (if t235 ≥ 1 then (if t235 ≤ 7 then (some (t236 == (wrap64 ((Int.tmod t235 7) + 1)))) else (some false)) else (some false)) else (some false)) = some r := by rw [if_pos rfl] at H; exact H
          clear H
          have H := H1
          clear H1
          by_cases c227 : x13_7 = true
          · subst c227
            have H1 : (if t235 ≥ 1 then (if t235 ≤ 7 then (some (t236 == (wrap64 ((Int.tmod t235 7) + 1)))) else (some false)) else (some false)) = some r := by rw [if_pos rfl] at H; exact H
            clear H
            have H := H1
            clear H1
            by_cases c228 : t235 ≥ 1
            · rw [if_pos c228] at H
              have c228b0 : decide (1 ≤ t235) = true := decide_eq_true c228
              clear c228
              by_cases c229 : t235 ≤ 7
              · rw [if_pos c229] at H
                have c229b0 : decide (t235 ≤ 7) = true := decide_eq_true c229
                clear c229
                obtain rfl := Option.some.inj H
                go_wp2
                go_ret
                exact ⟨by first | rfl | (simp [errW_none, errW_some] <;> rfl) | (simp [*, errW_none, errW_some] <;> rfl), by repeat (first | (with_reducible first | exact HB.out | apply below_alloc | apply pw_below_drewN | apply below_drew1) | exact HB.out)⟩
              · rw [if_neg c229] at H
                have c229b0 : decide (t235 ≤ 7) = false := decide_eq_false c229
                clear c229
                obtain rfl := Option.some.inj H
                go_wp2
                go_ret
                exact ⟨by first | rfl | (simp [errW_none, errW_some] <;> rfl) | (simp [*, errW_none, errW_some] <;> rfl), by repeat (first | (with_reducible first | exact HB.out | apply below_alloc | apply pw_below_drewN | apply below_drew1) | exact HB.out)⟩
            · rw [if_neg c228] at H
              have c228b0 : decide (1 ≤ t235) = false := decide_eq_false c228
              clear c228
              obtain rfl := Option.some.inj H
              go_wp2
              go_ret
              exact ⟨by first | rfl | (simp [errW_none, errW_some] <;> rfl) | (simp [*, errW_none, errW_some] <;> rfl), by repeat (first | (with_reducible first | exact HB.out | apply below_alloc | apply pw_below_drewN | apply below_drew1) | exact HB.out)⟩
          · replace c227 := Bool.eq_false_iff.mpr c227
            subst c227
            have H1 : (some false) = some r := by rw [if_neg (show ¬ (false = true) by decide)] at H; exact H
            clear H
            have H := H1
            clear H1
            obtain rfl := Option.some.inj H
            go_wp2
            go_ret
            exact ⟨by first | rfl | (simp [errW_none, errW_some] <;> rfl) | (simp [*, errW_none, errW_some] <;> rfl), by repeat (first | (with_reducible first | exact HB.out | apply below_alloc | apply pw_below_drewN | apply below_drew1) | exact HB.out)⟩
        · replace c226 := Bool.eq_false_iff.mpr c226
          subst c226
          have H1 : (some false) = some r := by rw [if_neg (show ¬ (false = true) by decide)] at H; exact H
          clear H
          have H := H1
          clear H1
          obtain rfl := Option.some.inj H
          go_wp2
          go_ret
          exact ⟨by first | rfl | (simp [errW_none, errW_some] <;> rfl) | (simp [*, errW_none, errW_some] <;> rfl), by repeat (first | (with_reducible first | exact HB.out | apply below_alloc | apply pw_below_drewN | apply below_drew1) | exact HB.out)⟩

/-- THE ONE PURE STATEMENT of wageofficelaw02_CalendarNext: yours. -/
def wageofficelaw02_CalendarNext.Pure : Prop := ∀ (a0 : Int), (Lit.int .i64 a0).wf = true → ∃ k, wageofficelaw02_CalendarNext.f k a0 = some true
end Go.Proofs.YthakhcnpiobpgaaDoor.PAll
