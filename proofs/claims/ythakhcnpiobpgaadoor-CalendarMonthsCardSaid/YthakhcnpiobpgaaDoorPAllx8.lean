-- Written by myprint.py over the kit's print.py (a printed text of this session's own make).
import Derived.Test.YthakhcnpiobpgaaDoorPAllx0
import Derived.Test.YthakhcnpiobpgaaDoorPAllx1
import Derived.Test.YthakhcnpiobpgaaDoorPAllx2
namespace Go.Proofs.YthakhcnpiobpgaaDoor.PAll
open Go.Proofs.YthakhcnpiobpgaaDoor.Stub Go.Proofs.YthakhcnpiobpgaaDoor.CalA
open Go.RowKit Go.Proofs.YthakhcnpiobpgaaDoorW.PrintWords Go.Proofs.YthakhcnpiobpgaaDoorW.PrintLast Go.Proofs.YthakhcnpiobpgaaDoorW.PrintMore
attribute [local go_sem] max2_int min2_int max_two min_two max_three min_three max_four min_four   -- for this text's walks alone
set_option linter.unusedVariables false
set_option linter.unusedSimpArgs false

/-! ### wageofficelaw02_CalendarLater: function 7 -/
def wageofficelaw02_CalendarLater.j0 : Nat → Bool → Int → Int → Int → Int → Int → Int → Int → Bool → Option (Bool)
  | 0, _, _, _, _, _, _, _, _, _ => none
  | k + 1, x7, x8, x9, x11, x12, x13, x14, x15, x51 => if x51 = true then (if x7 = true then (if x13 = 21 then (some (x12 == 0)) else (some false)) else (some false)) else ((calendar_Date.f x8).bind fun bt276 => ((calendar_Date.f x12).bind fun bt279 => (if x7 = true then (if x13 = 0 then ((calendar_Month.f x12).bind fun t282 => (if t282 = x11 then ((calendar_Length.f x11).bind fun t283 => (if bt279.2.2 = (mn bt276.2.2 t283) then (if x15 = 0 then (if x8 > x9 then (if x8 < x9 then (some true) else (some (decide (x12 ≥ x14)))) else (if x12 ≤ x14 then (if x8 < x9 then (some true) else (some (decide (x12 ≥ x14)))) else (some false))) else (some true)) else (some false))) else (some false))) else (some false)) else (some false))))
def wageofficelaw02_CalendarLater.f (k : Nat) (a0 : Int) (a1 : Int) (a2 : Int) : Option (Bool) := (wageofficelaw02_head.f k).bind fun t267 => ((wageofficelaw02_pick.f a0 36525).bind fun t268 => ((wageofficelaw02_pick.f a1 36525).bind fun t269 => ((wageofficelaw02_pick.f a2 2399).bind fun t270 => ((calendar_Month.f t268).bind fun t271 => ((calendar_Later.f k t268 (wrap64 (t270 - 1199))).bind fun bt272 => ((calendar_Later.f k t269 (wrap64 (t270 - 1199))).bind fun bt274 => (if (wrap64 (t271 + (wrap64 (t270 - 1199)))) < 0 then (wageofficelaw02_CalendarLater.j0 k t267 t268 t269 (wrap64 (t271 + (wrap64 (t270 - 1199)))) bt272.1 bt272.2 bt274.1 bt274.2 true) else (wageofficelaw02_CalendarLater.j0 k t267 t268 t269 (wrap64 (t271 + (wrap64 (t270 - 1199)))) bt272.1 bt272.2 bt274.1 bt274.2 (decide ((wrap64 (t271 + (wrap64 (t270 - 1199)))) > 1199))))))))))
theorem wageofficelaw02_CalendarLater.mono_l : ∀ k, (∀ y0 y1 y2 y3 y4 y5 y6 y7 y8, LeO (wageofficelaw02_CalendarLater.j0 k y0 y1 y2 y3 y4 y5 y6 y7 y8) (wageofficelaw02_CalendarLater.j0 (k + 1) y0 y1 y2 y3 y4 y5 y6 y7 y8))
  | 0 => fun _ _ _ _ _ _ _ _ _ r h => by simp [wageofficelaw02_CalendarLater.j0] at h
  | k + 1 => by
    have ih0 := wageofficelaw02_CalendarLater.mono_l k
    · intro y0 y1 y2 y3 y4 y5 y6 y7 y8
      unfold wageofficelaw02_CalendarLater.j0
      repeat' first
      | (with_reducible exact ih0 _ _ _ _ _ _ _ _ _)
      | (with_reducible exact calendar_Later.mono _ _ _)
      | (with_reducible exact wageofficelaw02_head.mono _)
      | (with_reducible exact LeO.refl _)
      | (with_reducible exact LeO.none _)
      | (with_reducible refine LeO.ite ?_ ?_)
      | (with_reducible refine LeO.bind ?_ (fun _ => ?_))
      | exact ih0 _ _ _ _ _ _ _ _ _
      | exact calendar_Later.mono _ _ _
      | exact wageofficelaw02_head.mono _
      | exact LeO.none _
      | refine LeO.ite ?_ ?_
      | refine LeO.bind ?_ (fun _ => ?_)
theorem wageofficelaw02_CalendarLater.mono : ∀ a0 a1 a2 k, LeO (wageofficelaw02_CalendarLater.f k a0 a1 a2) (wageofficelaw02_CalendarLater.f (k + 1) a0 a1 a2) := by
  intro a0 a1 a2 k
  have ih0 := wageofficelaw02_CalendarLater.mono_l k
  unfold wageofficelaw02_CalendarLater.f
  repeat' first
      | (with_reducible exact ih0 _ _ _ _ _ _ _ _ _)
      | (with_reducible exact calendar_Later.mono _ _ _)
      | (with_reducible exact wageofficelaw02_head.mono _)
      | (with_reducible exact LeO.refl _)
      | (with_reducible exact LeO.none _)
      | (with_reducible refine LeO.ite ?_ ?_)
      | (with_reducible refine LeO.bind ?_ (fun _ => ?_))
      | exact ih0 _ _ _ _ _ _ _ _ _
      | exact calendar_Later.mono _ _ _
      | exact wageofficelaw02_head.mono _
      | exact LeO.none _
      | refine LeO.ite ?_ ?_
      | refine LeO.bind ?_ (fun _ => ?_)
set_option maxHeartbeats 8000000 in
set_option maxRecDepth 100000 in
theorem wageofficelaw02_CalendarLater.calls (k : Nat) (a0 : Int) (a1 : Int) (a2 : Int) (r : Bool) (w : World) (h : wageofficelaw02_CalendarLater.f k a0 a1 a2 = some r) (hTBefore0 : TabBefore w) :
    Calls Tryd.prog 7 #[.int .i64 a0, .int .i64 a1, .int .i64 a2] w fun e w' => e = .returned (.bool r) ∧ Below w.heap.size w w' := by
  have hTBefore := Aside0.mk hTBefore0
  clear hTBefore0
  have HB := Aside0.mk (Below.refl w.heap.size w)
  have H : ((wageofficelaw02_head.f k).bind fun t267 => ((wageofficelaw02_pick.f a0 36525).bind fun t268 => ((wageofficelaw02_pick.f a1 36525).bind fun t269 => ((wageofficelaw02_pick.f a2 2399).bind fun t270 => ((calendar_Month.f t268).bind fun t271 => ((calendar_Later.f k t268 (wrap64 (t270 - 1199))).bind fun bt272 => ((calendar_Later.f k t269 (wrap64 (t270 - 1199))).bind fun bt274 => (if (wrap64 (t271 + (wrap64 (t270 - 1199)))) < 0 then (wageofficelaw02_CalendarLater.j0 k t267 t268 t269 (wrap64 (t271 + (wrap64 (t270 - 1199)))) bt272.1 bt272.2 bt274.1 bt274.2 true) else (wageofficelaw02_CalendarLater.j0 k t267 t268 t269 (wrap64 (t271 + (wrap64 (t270 - 1199)))) bt272.1 bt272.2 bt274.1 bt274.2 (decide ((wrap64 (t271 + (wrap64 (t270 - 1199)))) > 1199))))))))))) = some r := h
  clear h
  replace H := Option.bind_eq_some_iff.mp H
  obtain ⟨t267, A40, H⟩ := H
  replace H : ((wageofficelaw02_pick.f a0 36525).bind fun t268 => ((wageofficelaw02_pick.f a1 36525).bind fun t269 => ((wageofficelaw02_pick.f a2 2399).bind fun t270 => ((calendar_Month.f t268).bind fun t271 => ((calendar_Later.f k t268 (wrap64 (t270 - 1199))).bind fun bt272 => ((calendar_Later.f k t269 (wrap64 (t270 - 1199))).bind fun bt274 => (if (wrap64 (t271 + (wrap64 (t270 - 1199)))) < 0 then (wageofficelaw02_CalendarLater.j0 k t267 t268 t269 (wrap64 (t271 + (wrap64 (t270 - 1199)))) bt272.1 bt272.2 bt274.1 bt274.2 true) else (wageofficelaw02_CalendarLater.j0 k t267 t268 t269 (wrap64 (t271 + (wrap64 (t270 - 1199)))) bt272.1 bt272.2 bt274.1 bt274.2 (decide ((wrap64 (t271 + (wrap64 (t270 - 1199)))) > 1199)))))))))) = some r := H
  have A4 := Aside0.mk A40
  clear A40
  replace H := Option.bind_eq_some_iff.mp H
  obtain ⟨t268, A50, H⟩ := H
  replace H : ((wageofficelaw02_pick.f a1 36525).bind fun t269 => ((wageofficelaw02_pick.f a2 2399).bind fun t270 => ((calendar_Month.f t268).bind fun t271 => ((calendar_Later.f k t268 (wrap64 (t270 - 1199))).bind fun bt272 => ((calendar_Later.f k t269 (wrap64 (t270 - 1199))).bind fun bt274 => (if (wrap64 (t271 + (wrap64 (t270 - 1199)))) < 0 then (wageofficelaw02_CalendarLater.j0 k t267 t268 t269 (wrap64 (t271 + (wrap64 (t270 - 1199)))) bt272.1 bt272.2 bt274.1 bt274.2 true) else (wageofficelaw02_CalendarLater.j0 k t267 t268 t269 (wrap64 (t271 + (wrap64 (t270 - 1199)))) bt272.1 bt272.2 bt274.1 bt274.2 (decide ((wrap64 (t271 + (wrap64 (t270 - 1199)))) > 1199))))))))) = some r := H
  have A5 := Aside0.mk A50
  clear A50
  replace H := Option.bind_eq_some_iff.mp H
  obtain ⟨t269, A60, H⟩ := H
  replace H : ((wageofficelaw02_pick.f a2 2399).bind fun t270 => ((calendar_Month.f t268).bind fun t271 => ((calendar_Later.f k t268 (wrap64 (t270 - 1199))).bind fun bt272 => ((calendar_Later.f k t269 (wrap64 (t270 - 1199))).bind fun bt274 => (if (wrap64 (t271 + (wrap64 (t270 - 1199)))) < 0 then (wageofficelaw02_CalendarLater.j0 k t267 t268 t269 (wrap64 (t271 + (wrap64 (t270 - 1199)))) bt272.1 bt272.2 bt274.1 bt274.2 true) else (wageofficelaw02_CalendarLater.j0 k t267 t268 t269 (wrap64 (t271 + (wrap64 (t270 - 1199)))) bt272.1 bt272.2 bt274.1 bt274.2 (decide ((wrap64 (t271 + (wrap64 (t270 - 1199)))) > 1199)))))))) = some r := H
  have A6 := Aside0.mk A60
  clear A60
  replace H := Option.bind_eq_some_iff.mp H
  obtain ⟨t270, A70, H⟩ := H
  replace H : ((calendar_Month.f t268).bind fun t271 => ((calendar_Later.f k t268 (wrap64 (t270 - 1199))).bind fun bt272 => ((calendar_Later.f k t269 (wrap64 (t270 - 1199))).bind fun bt274 => (if (wrap64 (t271 + (wrap64 (t270 - 1199)))) < 0 then (wageofficelaw02_CalendarLater.j0 k t267 t268 t269 (wrap64 (t271 + (wrap64 (t270 - 1199)))) bt272.1 bt272.2 bt274.1 bt274.2 true) else (wageofficelaw02_CalendarLater.j0 k t267 t268 t269 (wrap64 (t271 + (wrap64 (t270 - 1199)))) bt272.1 bt272.2 bt274.1 bt274.2 (decide ((wrap64 (t271 + (wrap64 (t270 - 1199)))) > 1199))))))) = some r := H
  have A7 := Aside0.mk A70
  clear A70
  replace H := Option.bind_eq_some_iff.mp H
  obtain ⟨t271, A80, H⟩ := H
  replace H : ((calendar_Later.f k t268 (wrap64 (t270 - 1199))).bind fun bt272 => ((calendar_Later.f k t269 (wrap64 (t270 - 1199))).bind fun bt274 => (if (wrap64 (t271 + (wrap64 (t270 - 1199)))) < 0 then (wageofficelaw02_CalendarLater.j0 k t267 t268 t269 (wrap64 (t271 + (wrap64 (t270 - 1199)))) bt272.1 bt272.2 bt274.1 bt274.2 true) else (wageofficelaw02_CalendarLater.j0 k t267 t268 t269 (wrap64 (t271 + (wrap64 (t270 - 1199)))) bt272.1 bt272.2 bt274.1 bt274.2 (decide ((wrap64 (t271 + (wrap64 (t270 - 1199)))) > 1199)))))) = some r := H
  have A8 := Aside0.mk A80
  clear A80
  replace H := Option.bind_eq_some_iff.mp H
  obtain ⟨⟨t272, t273⟩, A90, H⟩ := H
  replace H : ((calendar_Later.f k t269 (wrap64 (t270 - 1199))).bind fun bt274 => (if (wrap64 (t271 + (wrap64 (t270 - 1199)))) < 0 then (wageofficelaw02_CalendarLater.j0 k t267 t268 t269 (wrap64 (t271 + (wrap64 (t270 - 1199)))) t272 t273 bt274.1 bt274.2 true) else (wageofficelaw02_CalendarLater.j0 k t267 t268 t269 (wrap64 (t271 + (wrap64 (t270 - 1199)))) t272 t273 bt274.1 bt274.2 (decide ((wrap64 (t271 + (wrap64 (t270 - 1199)))) > 1199))))) = some r := H
  have A9 := Aside0.mk A90
  clear A90
  replace H := Option.bind_eq_some_iff.mp H
  obtain ⟨⟨t274, t275⟩, A100, H⟩ := H
  replace H : (if (wrap64 (t271 + (wrap64 (t270 - 1199)))) < 0 then (wageofficelaw02_CalendarLater.j0 k t267 t268 t269 (wrap64 (t271 + (wrap64 (t270 - 1199)))) t272 t273 t274 t275 true) else (wageofficelaw02_CalendarLater.j0 k t267 t268 t269 (wrap64 (t271 + (wrap64 (t270 - 1199)))) t272 t273 t274 t275 (decide ((wrap64 (t271 + (wrap64 (t270 - 1199)))) > 1199)))) = some r := H
  have A10 := Aside0.mk A100
  clear A100
  have HC11 := Aside0.mk H
  clear H
  go_enter Tryd.func7, Tryd.ntmps7
  go_upto_region 8 with (first | ((with_reducible refine gate_callee (f := 9) rfl ?_); refine goesL_ (some 22) rfl rfl Tryd.func9 (by kernel_rfl) rfl #[] rfl (by (try simp only [List.map_toArray, List.map_cons, List.map_nil]); first | done | rfl | (simp only [List.length_drop, List.length_take]; rfl)) ?_; (with_reducible refine (wageofficelaw02_head.calls k  t267 _ A4.out (TabBefore.below hTBefore.out (by repeat (first | exact HB.out | exact Below.refl _ _ | apply below_alloc | apply pw_below_drewN | apply below_drew1 | apply below_drew)))).mono ?_); rintro e w12 ⟨rfl, hb⟩; refine ⟨_, rfl, ?_⟩; have n0_ := Aside0.mk (below_step (by repeat (first | (with_reducible first | exact HB.out | apply below_alloc | apply pw_below_drewN | apply below_drew1) | exact HB.out)) hb); clear HB; have HB := n0_; clear n0_; (try clear hb); (try clear hb2); (try clear hk); (try clear hi)) | ((with_reducible refine gate_callee (f := 10) rfl ?_); refine goesL_ (some 24) rfl rfl Tryd.func10 (by kernel_rfl) rfl #[.int .i64 a0, .int .i64 36525] rfl (by (try simp only [List.map_toArray, List.map_cons, List.map_nil]); first | done | rfl | (simp only [List.length_drop, List.length_take]; rfl)) ?_; (with_reducible refine (wageofficelaw02_pick.calls a0 36525 t268 _ A5.out).mono ?_); rintro e w' ⟨rfl, ⟨nd, rfl⟩⟩; refine ⟨_, rfl, ?_⟩) | ((with_reducible refine gate_callee (f := 10) rfl ?_); refine goesL_ (some 26) rfl rfl Tryd.func10 (by kernel_rfl) rfl #[.int .i64 a1, .int .i64 36525] rfl (by (try simp only [List.map_toArray, List.map_cons, List.map_nil]); first | done | rfl | (simp only [List.length_drop, List.length_take]; rfl)) ?_; (with_reducible refine (wageofficelaw02_pick.calls a1 36525 t269 _ A6.out).mono ?_); rintro e w' ⟨rfl, ⟨nd, rfl⟩⟩; refine ⟨_, rfl, ?_⟩) | ((with_reducible refine gate_callee (f := 10) rfl ?_); refine goesL_ (some 28) rfl rfl Tryd.func10 (by kernel_rfl) rfl #[.int .i64 a2, .int .i64 2399] rfl (by (try simp only [List.map_toArray, List.map_cons, List.map_nil]); first | done | rfl | (simp only [List.length_drop, List.length_take]; rfl)) ?_; (with_reducible refine (wageofficelaw02_pick.calls a2 2399 t270 _ A7.out).mono ?_); rintro e w' ⟨rfl, ⟨nd, rfl⟩⟩; refine ⟨_, rfl, ?_⟩) | ((with_reducible refine gate_callee (f := 17) rfl ?_); refine goesL_ (some 31) rfl rfl Tryd.func17 (by kernel_rfl) rfl #[.int .i64 t268] rfl (by (try simp only [List.map_toArray, List.map_cons, List.map_nil]); first | done | rfl | (simp only [List.length_drop, List.length_take]; rfl)) ?_; (with_reducible refine (calendar_Month.calls t268 t271 _ A8.out (TabBefore.below hTBefore.out (by repeat (first | exact HB.out | exact Below.refl _ _ | apply below_alloc | apply pw_below_drewN | apply below_drew1 | apply below_drew)))).mono ?_); rintro e w13 ⟨rfl, hb⟩; refine ⟨_, rfl, ?_⟩; have n0_ := Aside0.mk (below_step (by repeat (first | (with_reducible first | exact HB.out | apply below_alloc | apply pw_below_drewN | apply below_drew1) | exact HB.out)) hb); clear HB; have HB := n0_; clear n0_; (try clear hb); (try clear hb2); (try clear hk); (try clear hi)) | ((with_reducible refine gate_callee (f := 13) rfl ?_); refine goesL_ (some 37) rfl rfl Tryd.func13 (by kernel_rfl) rfl #[.int .i64 t268, .int .i64 (wrap64 (t270 - 1199))] rfl (by (try simp only [List.map_toArray, List.map_cons, List.map_nil]); first | done | rfl | (simp only [List.length_drop, List.length_take]; rfl)) ?_; (with_reducible refine (calendar_Later.calls k t268 (wrap64 (t270 - 1199)) t272 t273 _ A9.out (TabBefore.below hTBefore.out (by repeat (first | exact HB.out | exact Below.refl _ _ | apply below_alloc | apply pw_below_drewN | apply below_drew1 | apply below_drew)))).mono ?_); rintro e w14 ⟨rfl, hb⟩; refine ⟨_, rfl, ?_⟩; have n0_ := Aside0.mk (below_step (by repeat (first | (with_reducible first | exact HB.out | apply below_alloc | apply pw_below_drewN | apply below_drew1) | exact HB.out)) hb); clear HB; have HB := n0_; clear n0_; (try clear hb); (try clear hb2); (try clear hk); (try clear hi)) | ((with_reducible refine gate_callee (f := 13) rfl ?_); refine goesL_ (some 43) rfl rfl Tryd.func13 (by kernel_rfl) rfl #[.int .i64 t269, .int .i64 (wrap64 (t270 - 1199))] rfl (by (try simp only [List.map_toArray, List.map_cons, List.map_nil]); first | done | rfl | (simp only [List.length_drop, List.length_take]; rfl)) ?_; (with_reducible refine (calendar_Later.calls k t269 (wrap64 (t270 - 1199)) t274 t275 _ A10.out (TabBefore.below hTBefore.out (by repeat (first | exact HB.out | exact Below.refl _ _ | apply below_alloc | apply pw_below_drewN | apply below_drew1 | apply below_drew)))).mono ?_); rintro e w15 ⟨rfl, hb⟩; refine ⟨_, rfl, ?_⟩; have n0_ := Aside0.mk (below_step (by repeat (first | (with_reducible first | exact HB.out | apply below_alloc | apply pw_below_drewN | apply below_drew1) | exact HB.out)) hb); clear HB; have HB := n0_; clear n0_; (try clear hb); (try clear hb2); (try clear hk); (try clear hi)))
  (try simp only [Act.put, List.setIfInBounds_toArray, List.set_cons_zero, List.set_cons_succ])
  go_cut [51] (fun v51 wc => ∃ (kq : Nat) (x51_10 : Bool), v51 = .bool x51_10 ∧ Aside0 (wageofficelaw02_CalendarLater.j0 kq t267 t268 t269 (wrap64 (t271 + (wrap64 (t270 - 1199)))) t272 t273 t274 t275 x51_10 = some r) ∧ Aside0 (kq ≤ k) ∧ Aside0 (Below w.heap.size w wc))
  case first =>
    have H := HC11.out
    clear HC11
    by_cases c16 : (wrap64 (t271 + (wrap64 (t270 - 1199)))) < 0
    · rw [if_pos c16] at H
      have c16b0 : decide ((wrap64 (t271 + (wrap64 (t270 - 1199)))) < 0) = true := decide_eq_true c16
      clear c16
      (first | rw [c16b0] | (simp only [i64_w, i32_w]; rw [c16b0]) | skip)
      have H' := Aside0.mk H
      clear H
      go_wp2
      go_meet
      case rel => exact ⟨_, (true), (by first | rfl | (simp; done) | (simp [*]; done)), H', ⟨by first | omega | exact Nat.le_refl _⟩, ⟨by repeat (first | (with_reducible first | exact HB.out | apply below_alloc | apply pw_below_drewN | apply below_drew1) | exact HB.out)⟩⟩
    · rw [if_neg c16] at H
      have c16b0 : decide ((wrap64 (t271 + (wrap64 (t270 - 1199)))) < 0) = false := decide_eq_false c16
      clear c16
      (first | rw [c16b0] | (simp only [i64_w, i32_w]; rw [c16b0]) | skip)
      have H' := Aside0.mk H
      clear H
      go_wp2
      go_meet
      case rel => exact ⟨_, (decide ((wrap64 (t271 + (wrap64 (t270 - 1199)))) > 1199)), (by first | rfl | (simp; done) | (simp [*]; done)), H', ⟨by first | omega | exact Nat.le_refl _⟩, ⟨by repeat (first | (with_reducible first | exact HB.out | apply below_alloc | apply pw_below_drewN | apply below_drew1) | exact HB.out)⟩⟩
  case rest =>
    clear HC11
    try clear c1
    try clear p2
    try clear p6
    try clear c7
    try clear c9
    try clear c10
    try clear c13
    try clear c16
    try clear c16b0
    obtain ⟨kq, x51_10, rfl, HA, HJ10, HB⟩ := hcut
    cases kq with
    | zero => exact absurd HA.out (by simp [wageofficelaw02_CalendarLater.j0])
    | succ kj10 =>
      have H := HA.out
      clear HA
      simp only [wageofficelaw02_CalendarLater.j0] at H
      by_cases c17 : x51_10 = true
      · subst c17
        have H1 : (if t267 = true then (if t273 = 21 then (some (t272 == 0)) else (some false)) else (some false)) = some r := by rw [if_pos rfl] at H; exact H
        clear H
        have H := H1
        clear H1
        by_cases c18 : t267 = true
        · subst c18
          have H1 : (if t273 = 21 then (some (t272 == 0)) else (some false)) = some r := by rw [if_pos rfl] at H; exact H
          clear H
          have H := H1
          clear H1
          by_cases c19 : t273 = 21
          · rw [if_pos c19] at H
            have c19b0 : (t273 == 21) = true := beq_iff_eq.mpr c19
            have c19b1 : (t273 != 21) = false := bne_eq_false_iff_eq.mpr c19
            clear c19
            obtain rfl := Option.some.inj H
            go_wp2
            go_ret
            exact ⟨by first | rfl | (simp [errW_none, errW_some] <;> rfl) | (simp [*, errW_none, errW_some] <;> rfl), by repeat (first | (with_reducible first | exact HB.out | apply below_alloc | apply pw_below_drewN | apply below_drew1) | exact HB.out)⟩
          · rw [if_neg c19] at H
            have c19b0 : (t273 == 21) = false := beq_eq_false_iff_ne.mpr c19
            have c19b1 : (t273 != 21) = true := bne_iff_ne.mpr c19
            obtain rfl := Option.some.inj H
            go_wp2
            go_ret
            exact ⟨by first | rfl | (simp [errW_none, errW_some] <;> rfl) | (simp [*, errW_none, errW_some] <;> rfl), by repeat (first | (with_reducible first | exact HB.out | apply below_alloc | apply pw_below_drewN | apply below_drew1) | exact HB.out)⟩
        · replace c18 := Bool.eq_false_iff.mpr c18
          subst c18
          have H1 : (some false) = some r := by rw [if_neg (show ¬ (false = true) by decide)] at H; exact H
          clear H
          have H := H1
          clear H1
          obtain rfl := Option.some.inj H
          go_wp2
          go_ret
          exact ⟨by first | rfl | (simp [errW_none, errW_some] <;> rfl) | (simp [*, errW_none, errW_some] <;> rfl), by repeat (first | (with_reducible first | exact HB.out | apply below_alloc | apply pw_below_drewN | apply below_drew1) | exact HB.out)⟩
      · replace c17 := Bool.eq_false_iff.mpr c17
        subst c17
        have H1 : ((calendar_Date.f t268).bind fun bt276 => ((calendar_Date.f t272).bind fun bt279 => (if t267 = true then (if t273 = 0 then ((calendar_Month.f t272).bind fun t282 => (if t282 = (wrap64 (t271 + (wrap64 (t270 - 1199)))) then ((calendar_Length.f (wrap64 (t271 + (wrap64 (t270 - 1199))))).bind fun t283 => (if bt279.2.2 = (mn bt276.2.2 t283) then (if t275 = 0 then (if t268 > t269 then (if t268 < t269 then (some true) else (some (decide (t272 ≥ t274)))) else (if t272 ≤ t274 then (if t268 < t269 then (some true) else (some (decide (t272 ≥ t274)))) else (some false))) else (some true)) else (some false))) else (some false))) else (some false)) else (some false)))) = some r := by rw [if_neg (show ¬ (false = true) by decide)] at H; exact H
        clear H
        have H := H1
        clear H1
        replace H := Option.bind_eq_some_iff.mp H
        obtain ⟨⟨t276, t277, t278⟩, A200, H⟩ := H
        replace H : ((calendar_Date.f t272).bind fun bt279 => (if t267 = true then (if t273 = 0 then ((calendar_Month.f t272).bind fun t282 => (if t282 = (wrap64 (t271 + (wrap64 (t270 - 1199)))) then ((calendar_Length.f (wrap64 (t271 + (wrap64 (t270 - 1199))))).bind fun t283 => (if bt279.2.2 = (mn t278 t283) then (if t275 = 0 then (if t268 > t269 then (if t268 < t269 then (some true) else (some (decide (t272 ≥ t274)))) else (if t272 ≤ t274 then (if t268 < t269 then (some true) else (some (decide (t272 ≥ t274)))) else (some false))) else (some true)) else (some false))) else (some false))) else (some false)) else (some false))) = some r := H
        have A20 := Aside0.mk A200
        clear A200
        replace H := Option.bind_eq_some_iff.mp H
        obtain ⟨⟨t279, t280, t281⟩, A210, H⟩ := H
        replace H : (if t267 = true then (if t273 = 0 then ((calendar_Month.f t272).bind fun t282 => (if t282 = (wrap64 (t271 + (wrap64 (t270 - 1199)))) then ((calendar_Length.f (wrap64 (t271 + (wrap64 (t270 - 1199))))).bind fun t283 => (if t281 = (mn t278 t283) then (if t275 = 0 then (if t268 > t269 then (if t268 < t269 then (some true) else (some (decide (t272 ≥ t274)))) else (if t272 ≤ t274 then (if t268 < t269 then (some true) else (some (decide (t272 ≥ t274)))) else (some false))) else (some true)) else (some false))) else (some false))) else (some false)) else (some false)) = some r := H
        have A21 := Aside0.mk A210
        clear A210
        by_cases c22 : t267 = true
        · subst c22
          have H1 : (if t273 = 0 then ((calendar_Month.f t272).bind fun t282 => (if t282 = (wrap64 (t271 + (wrap64 (t270 - 1199)))) then ((calendar_Length.f (wrap64 (t271 + (wrap64 (t270 - 1199))))).bind fun t283 => (if t281 = (mn t278 t283) then (if t275 = 0 then (if t268 > t269 then (if t268 < t269 then (some true) else (some (decide (t272 ≥ t274)))) else (if t272 ≤ t274 then (if t268 < t269 then (some true) else (some (decide (t272 ≥ t274)))) else (some false))) else (some true)) else (some false))) else (some false))) else (some false)) = some r := by rw [if_pos rfl] at H; exact H
          clear H
          have H := H1
          clear H1
          by_cases c23 : t273 = 0
          · rw [if_pos c23] at H
            have c23b0 : (t273 == 0) = true := beq_iff_eq.mpr c23
            have c23b1 : (t273 != 0) = false := bne_eq_false_iff_eq.mpr c23
            clear c23
            replace H := Option.bind_eq_some_iff.mp H
            obtain ⟨t282, A240, H⟩ := H
            replace H : (if t282 = (wrap64 (t271 + (wrap64 (t270 - 1199)))) then ((calendar_Length.f (wrap64 (t271 + (wrap64 (t270 - 1199))))).bind fun t283 => (if t281 = (mn t278 t283) then (if t275 = 0 then (if t268 > t269 then (if t268 < t269 then (some true) else (some (decide (t272 ≥ t274)))) else (if t272 ≤ t274 then (if t268 < t269 then (some true) else (some (decide (t272 ≥ t274)))) else (some false))) else (some true)) else (some false))) else (some false)) = some r := H
            have A24 := Aside0.mk A240
            clear A240
            by_cases c25 : t282 = (wrap64 (t271 + (wrap64 (t270 - 1199))))
            · rw [if_pos c25] at H
              have c25b0 : (t282 == (wrap64 (t271 + (wrap64 (t270 - 1199))))) = true := beq_iff_eq.mpr c25
              have c25b1 : (t282 != (wrap64 (t271 + (wrap64 (t270 - 1199))))) = false := bne_eq_false_iff_eq.mpr c25
              clear c25
              replace H := Option.bind_eq_some_iff.mp H
              obtain ⟨t283, A260, H⟩ := H
              replace H : (if t281 = (mn t278 t283) then (if t275 = 0 then (if t268 > t269 then (if t268 < t269 then (some true) else (some (decide (t272 ≥ t274)))) else (if t272 ≤ t274 then (if t268 < t269 then (some true) else (some (decide (t272 ≥ t274)))) else (some false))) else (some true)) else (some false)) = some r := H
              have A26 := Aside0.mk A260
              clear A260
              obtain ⟨ji27, hji27⟩ : ∃ j_ : Int, (mn t278 t283) = j_ := ⟨_, rfl⟩
              replace H : (if t281 = (ji27) then (if t275 = 0 then (if t268 > t269 then (if t268 < t269 then (some true) else (some (decide (t272 ≥ t274)))) else (if t272 ≤ t274 then (if t268 < t269 then (some true) else (some (decide (t272 ≥ t274)))) else (some false))) else (some true)) else (some false)) = some r := by first | (rw [hji27] at H; exact H) | (simp only [hji27] at H ⊢; exact H)
              (try rw [hji27] at A20)
              (try rw [hji27] at A21)
              (try rw [hji27] at A24)
              (try rw [hji27] at A26)
              have hji27_ : (if t283 < t278 then t283 else t278) = ji27 := hji27
              by_cases c28 : t281 = (ji27)
              · rw [if_pos c28] at H
                have c28b0 : (t281 == (ji27)) = true := beq_iff_eq.mpr c28
                have c28b1 : (t281 != (ji27)) = false := bne_eq_false_iff_eq.mpr c28
                clear c28
                by_cases c29 : t275 = 0
                · rw [if_pos c29] at H
                  have c29b0 : (t275 == 0) = true := beq_iff_eq.mpr c29
                  have c29b1 : (t275 != 0) = false := bne_eq_false_iff_eq.mpr c29
                  clear c29
                  by_cases c30 : t268 > t269
                  · rw [if_pos c30] at H
                    have c30b0 : decide (t269 < t268) = true := decide_eq_true c30
                    clear c30
                    by_cases c31 : t268 < t269
                    · rw [if_pos c31] at H
                      have c31b0 : decide (t268 < t269) = true := decide_eq_true c31
                      clear c31
                      obtain rfl := Option.some.inj H
                      go_wp2_with (first | ((with_reducible refine gate_callee (f := 11) rfl ?_); refine goesL_ (some 63) rfl rfl Tryd.func11 (by kernel_rfl) rfl #[.int .i64 t268] rfl (by (try simp only [List.map_toArray, List.map_cons, List.map_nil]); first | done | rfl | (simp only [List.length_drop, List.length_take]; rfl)) ?_; (with_reducible refine (calendar_Date.calls t268 t276 t277 t278 _ A20.out (TabBefore.below hTBefore.out (by repeat (first | exact HB.out | exact Below.refl _ _ | apply below_alloc | apply pw_below_drewN | apply below_drew1 | apply below_drew)))).mono ?_); rintro e w32 ⟨rfl, hb⟩; refine ⟨_, rfl, ?_⟩; have n0_ := Aside0.mk (below_step (by repeat (first | (with_reducible first | exact HB.out | apply below_alloc | apply pw_below_drewN | apply below_drew1) | exact HB.out)) hb); clear HB; have HB := n0_; clear n0_; (try clear hb); (try clear hb2); (try clear hk); (try clear hi)) | ((with_reducible refine gate_callee (f := 11) rfl ?_); refine goesL_ (some 69) rfl rfl Tryd.func11 (by kernel_rfl) rfl #[.int .i64 t272] rfl (by (try simp only [List.map_toArray, List.map_cons, List.map_nil]); first | done | rfl | (simp only [List.length_drop, List.length_take]; rfl)) ?_; (with_reducible refine (calendar_Date.calls t272 t279 t280 t281 _ A21.out (TabBefore.below hTBefore.out (by repeat (first | exact HB.out | exact Below.refl _ _ | apply below_alloc | apply pw_below_drewN | apply below_drew1 | apply below_drew)))).mono ?_); rintro e w33 ⟨rfl, hb⟩; refine ⟨_, rfl, ?_⟩; have n0_ := Aside0.mk (below_step (by repeat (first | (with_reducible first | exact HB.out | apply below_alloc | apply pw_below_drewN | apply below_drew1) | exact HB.out)) hb); clear HB; have HB := n0_; clear n0_; (try clear hb); (try clear hb2); (try clear hk); (try clear hi)) | (go_at_call 17; (with_reducible refine (calendar_Month.calls t272 t282 _ A24.out (TabBefore.below hTBefore.out (by repeat (first | exact HB.out | exact Below.refl _ _ | apply below_alloc | apply pw_below_drewN | apply below_drew1 | apply below_drew)))).mono ?_); rintro e w34 ⟨rfl, hb⟩; have n0_ := Aside0.mk (below_step (by repeat (first | (with_reducible first | exact HB.out | apply below_alloc | apply pw_below_drewN | apply below_drew1) | exact HB.out)) hb); clear HB; have HB := n0_; clear n0_; (try clear hb); (try clear hb2); (try clear hk); (try clear hi)) | (go_at_call 23; (with_reducible refine (calendar_Length.calls (wrap64 (t271 + (wrap64 (t270 - 1199)))) t283 _ A26.out (TabBefore.below hTBefore.out (by repeat (first | exact HB.out | exact Below.refl _ _ | apply below_alloc | apply pw_below_drewN | apply below_drew1 | apply below_drew)))).mono ?_); rintro e w35 ⟨rfl, hb⟩; have n0_ := Aside0.mk (below_step (by repeat (first | (with_reducible first | exact HB.out | apply below_alloc | apply pw_below_drewN | apply below_drew1) | exact HB.out)) hb); clear HB; have HB := n0_; clear n0_; (try clear hb); (try clear hb2); (try clear hk); (try clear hi)))
                      go_ret
                      exact ⟨by first | rfl | (simp [errW_none, errW_some] <;> rfl) | (simp only [← hji27]; first | rfl | (simp [errW_none, errW_some] <;> rfl)) | (simp [*, errW_none, errW_some] <;> rfl), by repeat (first | (with_reducible first | exact HB.out | apply below_alloc | apply pw_below_drewN | apply below_drew1) | exact HB.out)⟩
                    · rw [if_neg c31] at H
                      have c31b0 : decide (t268 < t269) = false := decide_eq_false c31
                      clear c31
                      obtain rfl := Option.some.inj H
                      go_wp2_with (first | ((with_reducible refine gate_callee (f := 11) rfl ?_); refine goesL_ (some 63) rfl rfl Tryd.func11 (by kernel_rfl) rfl #[.int .i64 t268] rfl (by (try simp only [List.map_toArray, List.map_cons, List.map_nil]); first | done | rfl | (simp only [List.length_drop, List.length_take]; rfl)) ?_; (with_reducible refine (calendar_Date.calls t268 t276 t277 t278 _ A20.out (TabBefore.below hTBefore.out (by repeat (first | exact HB.out | exact Below.refl _ _ | apply below_alloc | apply pw_below_drewN | apply below_drew1 | apply below_drew)))).mono ?_); rintro e w36 ⟨rfl, hb⟩; refine ⟨_, rfl, ?_⟩; have n0_ := Aside0.mk (below_step (by repeat (first | (with_reducible first | exact HB.out | apply below_alloc | apply pw_below_drewN | apply below_drew1) | exact HB.out)) hb); clear HB; have HB := n0_; clear n0_; (try clear hb); (try clear hb2); (try clear hk); (try clear hi)) | ((with_reducible refine gate_callee (f := 11) rfl ?_); refine goesL_ (some 69) rfl rfl Tryd.func11 (by kernel_rfl) rfl #[.int .i64 t272] rfl (by (try simp only [List.map_toArray, List.map_cons, List.map_nil]); first | done | rfl | (simp only [List.length_drop, List.length_take]; rfl)) ?_; (with_reducible refine (calendar_Date.calls t272 t279 t280 t281 _ A21.out (TabBefore.below hTBefore.out (by repeat (first | exact HB.out | exact Below.refl _ _ | apply below_alloc | apply pw_below_drewN | apply below_drew1 | apply below_drew)))).mono ?_); rintro e w37 ⟨rfl, hb⟩; refine ⟨_, rfl, ?_⟩; have n0_ := Aside0.mk (below_step (by repeat (first | (with_reducible first | exact HB.out | apply below_alloc | apply pw_below_drewN | apply below_drew1) | exact HB.out)) hb); clear HB; have HB := n0_; clear n0_; (try clear hb); (try clear hb2); (try clear hk); (try clear hi)) | (go_at_call 17; (with_reducible refine (calendar_Month.calls t272 t282 _ A24.out (TabBefore.below hTBefore.out (by repeat (first | exact HB.out | exact Below.refl _ _ | apply below_alloc | apply pw_below_drewN | apply below_drew1 | apply below_drew)))).mono ?_); rintro e w38 ⟨rfl, hb⟩; have n0_ := Aside0.mk (below_step (by repeat (first | (with_reducible first | exact HB.out | apply below_alloc | apply pw_below_drewN | apply below_drew1) | exact HB.out)) hb); clear HB; have HB := n0_; clear n0_; (try clear hb); (try clear hb2); (try clear hk); (try clear hi)) | (go_at_call 23; (with_reducible refine (calendar_Length.calls (wrap64 (t271 + (wrap64 (t270 - 1199)))) t283 _ A26.out (TabBefore.below hTBefore.out (by repeat (first | exact HB.out | exact Below.refl _ _ | apply below_alloc | apply pw_below_drewN | apply below_drew1 | apply below_drew)))).mono ?_); rintro e w39 ⟨rfl, hb⟩; have n0_ := Aside0.mk (below_step (by repeat (first | (with_reducible first | exact HB.out | apply below_alloc | apply pw_below_drewN | apply below_drew1) | exact HB.out)) hb); clear HB; have HB := n0_; clear n0_; (try clear hb); (try clear hb2); (try clear hk); (try clear hi)))
                      go_ret
                      exact ⟨by first | rfl | (simp [errW_none, errW_some] <;> rfl) | (simp only [← hji27]; first | rfl | (simp [errW_none, errW_some] <;> rfl)) | (simp [*, errW_none, errW_some] <;> rfl), by repeat (first | (with_reducible first | exact HB.out | apply below_alloc | apply pw_below_drewN | apply below_drew1) | exact HB.out)⟩
                  · rw [if_neg c30] at H
                    have c30b0 : decide (t269 < t268) = false := decide_eq_false c30
                    clear c30
                    by_cases c40 : t272 ≤ t274
                    · rw [if_pos c40] at H
                      have c40b0 : decide (t272 ≤ t274) = true := decide_eq_true c40
                      clear c40
                      by_cases c41 : t268 < t269
                      · rw [if_pos c41] at H
                        have c41b0 : decide (t268 < t269) = true := decide_eq_true c41
                        clear c41
                        obtain rfl := Option.some.inj H
                        go_wp2_with (first | ((with_reducible refine gate_callee (f := 11) rfl ?_); refine goesL_ (some 63) rfl rfl Tryd.func11 (by kernel_rfl) rfl #[.int .i64 t268] rfl (by (try simp only [List.map_toArray, List.map_cons, List.map_nil]); first | done | rfl | (simp only [List.length_drop, List.length_take]; rfl)) ?_; (with_reducible refine (calendar_Date.calls t268 t276 t277 t278 _ A20.out (TabBefore.below hTBefore.out (by repeat (first | exact HB.out | exact Below.refl _ _ | apply below_alloc | apply pw_below_drewN | apply below_drew1 | apply below_drew)))).mono ?_); rintro e w42 ⟨rfl, hb⟩; refine ⟨_, rfl, ?_⟩; have n0_ := Aside0.mk (below_step (by repeat (first | (with_reducible first | exact HB.out | apply below_alloc | apply pw_below_drewN | apply below_drew1) | exact HB.out)) hb); clear HB; have HB := n0_; clear n0_; (try clear hb); (try clear hb2); (try clear hk); (try clear hi)) | ((with_reducible refine gate_callee (f := 11) rfl ?_); refine goesL_ (some 69) rfl rfl Tryd.func11 (by kernel_rfl) rfl #[.int .i64 t272] rfl (by (try simp only [List.map_toArray, List.map_cons, List.map_nil]); first | done | rfl | (simp only [List.length_drop, List.length_take]; rfl)) ?_; (with_reducible refine (calendar_Date.calls t272 t279 t280 t281 _ A21.out (TabBefore.below hTBefore.out (by repeat (first | exact HB.out | exact Below.refl _ _ | apply below_alloc | apply pw_below_drewN | apply below_drew1 | apply below_drew)))).mono ?_); rintro e w43 ⟨rfl, hb⟩; refine ⟨_, rfl, ?_⟩; have n0_ := Aside0.mk (below_step (by repeat (first | (with_reducible first | exact HB.out | apply below_alloc | apply pw_below_drewN | apply below_drew1) | exact HB.out)) hb); clear HB; have HB := n0_; clear n0_; (try clear hb); (try clear hb2); (try clear hk); (try clear hi)) | (go_at_call 17; (with_reducible refine (calendar_Month.calls t272 t282 _ A24.out (TabBefore.below hTBefore.out (by repeat (first | exact HB.out | exact Below.refl _ _ | apply below_alloc | apply pw_below_drewN | apply below_drew1 | apply below_drew)))).mono ?_); rintro e w44 ⟨rfl, hb⟩; have n0_ := Aside0.mk (below_step (by repeat (first | (with_reducible first | exact HB.out | apply below_alloc | apply pw_below_drewN | apply below_drew1) | exact HB.out)) hb); clear HB; have HB := n0_; clear n0_; (try clear hb); (try clear hb2); (try clear hk); (try clear hi)) | (go_at_call 23; (with_reducible refine (calendar_Length.calls (wrap64 (t271 + (wrap64 (t270 - 1199)))) t283 _ A26.out (TabBefore.below hTBefore.out (by repeat (first | exact HB.out | exact Below.refl _ _ | apply below_alloc | apply pw_below_drewN | apply below_drew1 | apply below_drew)))).mono ?_); rintro e w45 ⟨rfl, hb⟩; have n0_ := Aside0.mk (below_step (by repeat (first | (with_reducible first | exact HB.out | apply below_alloc | apply pw_below_drewN | apply below_drew1) | exact HB.out)) hb); clear HB; have HB := n0_; clear n0_; (try clear hb); (try clear hb2); (try clear hk); (try clear hi)))
                        go_ret
                        exact ⟨by first | rfl | (simp [errW_none, errW_some] <;> rfl) | (simp only [← hji27]; first | rfl | (simp [errW_none, errW_some] <;> rfl)) | (simp [*, errW_none, errW_some] <;> rfl), by repeat (first | (with_reducible first | exact HB.out | apply below_alloc | apply pw_below_drewN | apply below_drew1) | exact HB.out)⟩
                      · rw [if_neg c41] at H
                        have c41b0 : decide (t268 < t269) = false := decide_eq_false c41
                        clear c41
                        obtain rfl := Option.some.inj H
                        go_wp2_with (first | ((with_reducible refine gate_callee (f := 11) rfl ?_); refine goesL_ (some 63) rfl rfl Tryd.func11 (by kernel_rfl) rfl #[.int .i64 t268] rfl (by (try simp only [List.map_toArray, List.map_cons, List.map_nil]); first | done | rfl | (simp only [List.length_drop, List.length_take]; rfl)) ?_; (with_reducible refine (calendar_Date.calls t268 t276 t277 t278 _ A20.out (TabBefore.below hTBefore.out (by repeat (first | exact HB.out | exact Below.refl _ _ | apply below_alloc | apply pw_below_drewN | apply below_drew1 | apply below_drew)))).mono ?_); rintro e w46 ⟨rfl, hb⟩; refine ⟨_, rfl, ?_⟩; have n0_ := Aside0.mk (below_step (by repeat (first | (with_reducible first | exact HB.out | apply below_alloc | apply pw_below_drewN | apply below_drew1) | exact HB.out)) hb); clear HB; have HB := n0_; clear n0_; (try clear hb); (try clear hb2); (try clear hk); (try clear hi)) | ((with_reducible refine gate_callee (f := 11) rfl ?_); refine goesL_ (some 69) rfl rfl Tryd.func11 (by kernel_rfl) rfl #[.int .i64 t272] rfl (by (try simp only [List.map_toArray, List.map_cons, List.map_nil]); first | done | rfl | (simp only [List.length_drop, List.length_take]; rfl)) ?_; (with_reducible refine (calendar_Date.calls t272 t279 t280 t281 _ A21.out (TabBefore.below hTBefore.out (by repeat (first | exact HB.out | exact Below.refl _ _ | apply below_alloc | apply pw_below_drewN | apply below_drew1 | apply below_drew)))).mono ?_); rintro e w47 ⟨rfl, hb⟩; refine ⟨_, rfl, ?_⟩; have n0_ := Aside0.mk (below_step (by repeat (first | (with_reducible first | exact HB.out | apply below_alloc | apply pw_below_drewN | apply below_drew1) | exact HB.out)) hb); clear HB; have HB := n0_; clear n0_; (try clear hb); (try clear hb2); (try clear hk); (try clear hi)) | (go_at_call 17; (with_reducible refine (calendar_Month.calls t272 t282 _ A24.out (TabBefore.below hTBefore.out (by repeat (first | exact HB.out | exact Below.refl _ _ | apply below_alloc | apply pw_below_drewN | apply below_drew1 | apply below_drew)))).mono ?_); rintro e w48 ⟨rfl, hb⟩; have n0_ := Aside0.mk (below_step (by repeat (first | (with_reducible first | exact HB.out | apply below_alloc | apply pw_below_drewN | apply below_drew1) | exact HB.out)) hb); clear HB; have HB := n0_; clear n0_; (try clear hb); (try clear hb2); (try clear hk); (try clear hi)) | (go_at_call 23; (with_reducible refine (calendar_Length.calls (wrap64 (t271 + (wrap64 (t270 - 1199)))) t283 _ A26.out (TabBefore.below hTBefore.out (by repeat (first | exact HB.out | exact Below.refl _ _ | apply below_alloc | apply pw_below_drewN | apply below_drew1 | apply below_drew)))).mono ?_); rintro e w49 ⟨rfl, hb⟩; have n0_ := Aside0.mk (below_step (by repeat (first | (with_reducible first | exact HB.out | apply below_alloc | apply pw_below_drewN | apply below_drew1) | exact HB.out)) hb); clear HB; have HB := n0_; clear n0_; (try clear hb); (try clear hb2); (try clear hk); (try clear hi)))
                        go_ret
                        exact ⟨by first | rfl | (simp [errW_none, errW_some] <;> rfl) | (simp only [← hji27]; first | rfl | (simp [errW_none, errW_some] <;> rfl)) | (simp [*, errW_none, errW_some] <;> rfl), by repeat (first | (with_reducible first | exact HB.out | apply below_alloc | apply pw_below_drewN | apply below_drew1) | exact HB.out)⟩
                    · rw [if_neg c40] at H
                      have c40b0 : decide (t272 ≤ t274) = false := decide_eq_false c40
                      clear c40
                      obtain rfl := Option.some.inj H
                      go_wp2_with (first | ((with_reducible refine gate_callee (f := 11) rfl ?_); refine goesL_ (some 63) rfl rfl Tryd.func11 (by kernel_rfl) rfl #[.int .i64 t268] rfl (by (try simp only [List.map_toArray, List.map_cons, List.map_nil]); first | done | rfl | (simp only [List.length_drop, List.length_take]; rfl)) ?_; (with_reducible refine (calendar_Date.calls t268 t276 t277 t278 _ A20.out (TabBefore.below hTBefore.out (by repeat (first | exact HB.out | exact Below.refl _ _ | apply below_alloc | apply pw_below_drewN | apply below_drew1 | apply below_drew)))).mono ?_); rintro e w50 ⟨rfl, hb⟩; refine ⟨_, rfl, ?_⟩; have n0_ := Aside0.mk (below_step (by repeat (first | (with_reducible first | exact HB.out | apply below_alloc | apply pw_below_drewN | apply below_drew1) | exact HB.out)) hb); clear HB; have HB := n0_; clear n0_; (try clear hb); (try clear hb2); (try clear hk); (try clear hi)) | ((with_reducible refine gate_callee (f := 11) rfl ?_); refine goesL_ (some 69) rfl rfl Tryd.func11 (by kernel_rfl) rfl #[.int .i64 t272] rfl (by (try simp only [List.map_toArray, List.map_cons, List.map_nil]); first | done | rfl | (simp only [List.length_drop, List.length_take]; rfl)) ?_; (with_reducible refine (calendar_Date.calls t272 t279 t280 t281 _ A21.out (TabBefore.below hTBefore.out (by repeat (first | exact HB.out | exact Below.refl _ _ | apply below_alloc | apply pw_below_drewN | apply below_drew1 | apply below_drew)))).mono ?_); rintro e w51 ⟨rfl, hb⟩; refine ⟨_, rfl, ?_⟩; have n0_ := Aside0.mk (below_step (by repeat (first | (with_reducible first | exact HB.out | apply below_alloc | apply pw_below_drewN | apply below_drew1) | exact HB.out)) hb); clear HB; have HB := n0_; clear n0_; (try clear hb); (try clear hb2); (try clear hk); (try clear hi)) | (go_at_call 17; (with_reducible refine (calendar_Month.calls t272 t282 _ A24.out (TabBefore.below hTBefore.out (by repeat (first | exact HB.out | exact Below.refl _ _ | apply below_alloc | apply pw_below_drewN | apply below_drew1 | apply below_drew)))).mono ?_); rintro e w52 ⟨rfl, hb⟩; have n0_ := Aside0.mk (below_step (by repeat (first | (with_reducible first | exact HB.out | apply below_alloc | apply pw_below_drewN | apply below_drew1) | exact HB.out)) hb); clear HB; have HB := n0_; clear n0_; (try clear hb); (try clear hb2); (try clear hk); (try clear hi)) | (go_at_call 23; (with_reducible refine (calendar_Length.calls (wrap64 (t271 + (wrap64 (t270 - 1199)))) t283 _ A26.out (TabBefore.below hTBefore.out (by repeat (first | exact HB.out | exact Below.refl _ _ | apply below_alloc | apply pw_below_drewN | apply below_drew1 | apply below_drew)))).mono ?_); rintro e w53 ⟨rfl, hb⟩; have n0_ := Aside0.mk (below_step (by repeat (first | (with_reducible first | exact HB.out | apply below_alloc | apply pw_below_drewN | apply below_drew1) | exact HB.out)) hb); clear HB; have HB := n0_; clear n0_; (try clear hb); (try clear hb2); (try clear hk); (try clear hi)))
                      go_ret
                      exact ⟨by first | rfl | (simp [errW_none, errW_some] <;> rfl) | (simp only [← hji27]; first | rfl | (simp [errW_none, errW_some] <;> rfl)) | (simp [*, errW_none, errW_some] <;> rfl), by repeat (first | (with_reducible first | exact HB.out | apply below_alloc | apply pw_below_drewN | apply below_drew1) | exact HB.out)⟩
                · rw [if_neg c29] at H
                  have c29b0 : (t275 == 0) = false := beq_eq_false_iff_ne.mpr c29
                  have c29b1 : (t275 != 0) = true := bne_iff_ne.mpr c29
                  obtain rfl := Option.some.inj H
                  go_wp2_with (first | ((with_reducible refine gate_callee (f := 11) rfl ?_); refine goesL_ (some 63) rfl rfl Tryd.func11 (by kernel_rfl) rfl #[.int .i64 t268] rfl (by (try simp only [List.map_toArray, List.map_cons, List.map_nil]); first | done | rfl | (simp only [List.length_drop, List.length_take]; rfl)) ?_; (with_reducible refine (calendar_Date.calls t268 t276 t277 t278 _ A20.out (TabBefore.below hTBefore.out (by repeat (first | exact HB.out | exact Below.refl _ _ | apply below_alloc | apply pw_below_drewN | apply below_drew1 | apply below_drew)))).mono ?_); rintro e w54 ⟨rfl, hb⟩; refine ⟨_, rfl, ?_⟩; have n0_ := Aside0.mk (below_step (by repeat (first | (with_reducible first | exact HB.out | apply below_alloc | apply pw_below_drewN | apply below_drew1) | exact HB.out)) hb); clear HB; have HB := n0_; clear n0_; (try clear hb); (try clear hb2); (try clear hk); (try clear hi)) | ((with_reducible refine gate_callee (f := 11) rfl ?_); refine goesL_ (some 69) rfl rfl Tryd.func11 (by kernel_rfl) rfl #[.int .i64 t272] rfl (by (try simp only [List.map_toArray, List.map_cons, List.map_nil]); first | done | rfl | (simp only [List.length_drop, List.length_take]; rfl)) ?_; (with_reducible refine (calendar_Date.calls t272 t279 t280 t281 _ A21.out (TabBefore.below hTBefore.out (by repeat (first | exact HB.out | exact Below.refl _ _ | apply below_alloc | apply pw_below_drewN | apply below_drew1 | apply below_drew)))).mono ?_); rintro e w55 ⟨rfl, hb⟩; refine ⟨_, rfl, ?_⟩; have n0_ := Aside0.mk (below_step (by repeat (first | (with_reducible first | exact HB.out | apply below_alloc | apply pw_below_drewN | apply below_drew1) | exact HB.out)) hb); clear HB; have HB := n0_; clear n0_; (try clear hb); (try clear hb2); (try clear hk); (try clear hi)) | (go_at_call 17; (with_reducible refine (calendar_Month.calls t272 t282 _ A24.out (TabBefore.below hTBefore.out (by repeat (first | exact HB.out | exact Below.refl _ _ | apply below_alloc | apply pw_below_drewN | apply below_drew1 | apply below_drew)))).mono ?_); rintro e w56 ⟨rfl, hb⟩; have n0_ := Aside0.mk (below_step (by repeat (first | (with_reducible first | exact HB.out | apply below_alloc | apply pw_below_drewN | apply below_drew1) | exact HB.out)) hb); clear HB; have HB := n0_; clear n0_; (try clear hb); (try clear hb2); (try clear hk); (try clear hi)) | (go_at_call 23; (with_reducible refine (calendar_Length.calls (wrap64 (t271 + (wrap64 (t270 - 1199)))) t283 _ A26.out (TabBefore.below hTBefore.out (by repeat (first | exact HB.out | exact Below.refl _ _ | apply below_alloc | apply pw_below_drewN | apply below_drew1 | apply below_drew)))).mono ?_); rintro e w57 ⟨rfl, hb⟩; have n0_ := Aside0.mk (below_step (by repeat (first | (with_reducible first | exact HB.out | apply below_alloc | apply pw_below_drewN | apply below_drew1) | exact HB.out)) hb); clear HB; have HB := n0_; clear n0_; (try clear hb); (try clear hb2); (try clear hk); (try clear hi)))
                  go_ret
                  exact ⟨by first | rfl | (simp [errW_none, errW_some] <;> rfl) | (simp only [← hji27]; first | rfl | (simp [errW_none, errW_some] <;> rfl)) | (simp [*, errW_none, errW_some] <;> rfl), by repeat (first | (with_reducible first | exact HB.out | apply below_alloc | apply pw_below_drewN | apply below_drew1) | exact HB.out)⟩
              · rw [if_neg c28] at H
                have c28b0 : (t281 == (ji27)) = false := beq_eq_false_iff_ne.mpr c28
                have c28b1 : (t281 != (ji27)) = true := bne_iff_ne.mpr c28
                obtain rfl := Option.some.inj H
                go_wp2_with (first | ((with_reducible refine gate_callee (f := 11) rfl ?_); refine goesL_ (some 63) rfl rfl Tryd.func11 (by kernel_rfl) rfl #[.int .i64 t268] rfl (by (try simp only [List.map_toArray, List.map_cons, List.map_nil]); first | done | rfl | (simp only [List.length_drop, List.length_take]; rfl)) ?_; (with_reducible refine (calendar_Date.calls t268 t276 t277 t278 _ A20.out (TabBefore.below hTBefore.out (by repeat (first | exact HB.out | exact Below.refl _ _ | apply below_alloc | apply pw_below_drewN | apply below_drew1 | apply below_drew)))).mono ?_); rintro e w58 ⟨rfl, hb⟩; refine ⟨_, rfl, ?_⟩; have n0_ := Aside0.mk (below_step (by repeat (first | (with_reducible first | exact HB.out | apply below_alloc | apply pw_below_drewN | apply below_drew1) | exact HB.out)) hb); clear HB; have HB := n0_; clear n0_; (try clear hb); (try clear hb2); (try clear hk); (try clear hi)) | ((with_reducible refine gate_callee (f := 11) rfl ?_); refine goesL_ (some 69) rfl rfl Tryd.func11 (by kernel_rfl) rfl #[.int .i64 t272] rfl (by (try simp only [List.map_toArray, List.map_cons, List.map_nil]); first | done | rfl | (simp only [List.length_drop, List.length_take]; rfl)) ?_; (with_reducible refine (calendar_Date.calls t272 t279 t280 t281 _ A21.out (TabBefore.below hTBefore.out (by repeat (first | exact HB.out | exact Below.refl _ _ | apply below_alloc | apply pw_below_drewN | apply below_drew1 | apply below_drew)))).mono ?_); rintro e w59 ⟨rfl, hb⟩; refine ⟨_, rfl, ?_⟩; have n0_ := Aside0.mk (below_step (by repeat (first | (with_reducible first | exact HB.out | apply below_alloc | apply pw_below_drewN | apply below_drew1) | exact HB.out)) hb); clear HB; have HB := n0_; clear n0_; (try clear hb); (try clear hb2); (try clear hk); (try clear hi)) | (go_at_call 17; (with_reducible refine (calendar_Month.calls t272 t282 _ A24.out (TabBefore.below hTBefore.out (by repeat (first | exact HB.out | exact Below.refl _ _ | apply below_alloc | apply pw_below_drewN | apply below_drew1 | apply below_drew)))).mono ?_); rintro e w60 ⟨rfl, hb⟩; have n0_ := Aside0.mk (below_step (by repeat (first | (with_reducible first | exact HB.out | apply below_alloc | apply pw_below_drewN | apply below_drew1) | exact HB.out)) hb); clear HB; have HB := n0_; clear n0_; (try clear hb); (try clear hb2); (try clear hk); (try clear hi)) | (go_at_call 23; (with_reducible refine (calendar_Length.calls (wrap64 (t271 + (wrap64 (t270 - 1199)))) t283 _ A26.out (TabBefore.below hTBefore.out (by repeat (first | exact HB.out | exact Below.refl _ _ | apply below_alloc | apply pw_below_drewN | apply below_drew1 | apply below_drew)))).mono ?_); rintro e w61 ⟨rfl, hb⟩; have n0_ := Aside0.mk (below_step (by repeat (first | (with_reducible first | exact HB.out | apply below_alloc | apply pw_below_drewN | apply below_drew1) | exact HB.out)) hb); clear HB; have HB := n0_; clear n0_; (try clear hb); (try clear hb2); (try clear hk); (try clear hi)))
                go_ret
                exact ⟨by first | rfl | (simp [errW_none, errW_some] <;> rfl) | (simp only [← hji27]; first | rfl | (simp [errW_none, errW_some] <;> rfl)) | (simp [*, errW_none, errW_some] <;> rfl), by repeat (first | (with_reducible first | exact HB.out | apply below_alloc | apply pw_below_drewN | apply below_drew1) | exact HB.out)⟩
            · rw [if_neg c25] at H
              have c25b0 : (t282 == (wrap64 (t271 + (wrap64 (t270 - 1199))))) = false := beq_eq_false_iff_ne.mpr c25
              have c25b1 : (t282 != (wrap64 (t271 + (wrap64 (t270 - 1199))))) = true := bne_iff_ne.mpr c25
              obtain rfl := Option.some.inj H
              go_wp2_with (first | ((with_reducible refine gate_callee (f := 11) rfl ?_); refine goesL_ (some 63) rfl rfl Tryd.func11 (by kernel_rfl) rfl #[.int .i64 t268] rfl (by (try simp only [List.map_toArray, List.map_cons, List.map_nil]); first | done | rfl | (simp only [List.length_drop, List.length_take]; rfl)) ?_; (with_reducible refine (calendar_Date.calls t268 t276 t277 t278 _ A20.out (TabBefore.below hTBefore.out (by repeat (first | exact HB.out | exact Below.refl _ _ | apply below_alloc | apply pw_below_drewN | apply below_drew1 | apply below_drew)))).mono ?_); rintro e w62 ⟨rfl, hb⟩; refine ⟨_, rfl, ?_⟩; have n0_ := Aside0.mk (below_step (by repeat (first | (with_reducible first | exact HB.out | apply below_alloc | apply pw_below_drewN | apply below_drew1) | exact HB.out)) hb); clear HB; have HB := n0_; clear n0_; (try clear hb); (try clear hb2); (try clear hk); (try clear hi)) | ((with_reducible refine gate_callee (f := 11) rfl ?_); refine goesL_ (some 69) rfl rfl Tryd.func11 (by kernel_rfl) rfl #[.int .i64 t272] rfl (by (try simp only [List.map_toArray, List.map_cons, List.map_nil]); first | done | rfl | (simp only [List.length_drop, List.length_take]; rfl)) ?_; (with_reducible refine (calendar_Date.calls t272 t279 t280 t281 _ A21.out (TabBefore.below hTBefore.out (by repeat (first | exact HB.out | exact Below.refl _ _ | apply below_alloc | apply pw_below_drewN | apply below_drew1 | apply below_drew)))).mono ?_); rintro e w63 ⟨rfl, hb⟩; refine ⟨_, rfl, ?_⟩; have n0_ := Aside0.mk (below_step (by repeat (first | (with_reducible first | exact HB.out | apply below_alloc | apply pw_below_drewN | apply below_drew1) | exact HB.out)) hb); clear HB; have HB := n0_; clear n0_; (try clear hb); (try clear hb2); (try clear hk); (try clear hi)) | (go_at_call 17; (with_reducible refine (calendar_Month.calls t272 t282 _ A24.out (TabBefore.below hTBefore.out (by repeat (first | exact HB.out | exact Below.refl _ _ | apply below_alloc | apply pw_below_drewN | apply below_drew1 | apply below_drew)))).mono ?_); rintro e w64 ⟨rfl, hb⟩; have n0_ := Aside0.mk (below_step (by repeat (first | (with_reducible first | exact HB.out | apply below_alloc | apply pw_below_drewN | apply below_drew1) | exact HB.out)) hb); clear HB; have HB := n0_; clear n0_; (try clear hb); (try clear hb2); (try clear hk); (try clear hi)))
              go_ret
              exact ⟨by first | rfl | (simp [errW_none, errW_some] <;> rfl) | (simp [*, errW_none, errW_some] <;> rfl), by repeat (first | (with_reducible first | exact HB.out | apply below_alloc | apply pw_below_drewN | apply below_drew1) | exact HB.out)⟩
          · rw [if_neg c23] at H
            have c23b0 : (t273 == 0) = false := beq_eq_false_iff_ne.mpr c23
            have c23b1 : (t273 != 0) = true := bne_iff_ne.mpr c23
            obtain rfl := Option.some.inj H
            go_wp2_with (first | ((with_reducible refine gate_callee (f := 11) rfl ?_); refine goesL_ (some 63) rfl rfl Tryd.func11 (by kernel_rfl) rfl #[.int .i64 t268] rfl (by (try simp only [List.map_toArray, List.map_cons, List.map_nil]); first | done | rfl | (simp only [List.length_drop, List.length_take]; rfl)) ?_; (with_reducible refine (calendar_Date.calls t268 t276 t277 t278 _ A20.out (TabBefore.below hTBefore.out (by repeat (first | exact HB.out | exact Below.refl _ _ | apply below_alloc | apply pw_below_drewN | apply below_drew1 | apply below_drew)))).mono ?_); rintro e w65 ⟨rfl, hb⟩; refine ⟨_, rfl, ?_⟩; have n0_ := Aside0.mk (below_step (by repeat (first | (with_reducible first | exact HB.out | apply below_alloc | apply pw_below_drewN | apply below_drew1) | exact HB.out)) hb); clear HB; have HB := n0_; clear n0_; (try clear hb); (try clear hb2); (try clear hk); (try clear hi)) | ((with_reducible refine gate_callee (f := 11) rfl ?_); refine goesL_ (some 69) rfl rfl Tryd.func11 (by kernel_rfl) rfl #[.int .i64 t272] rfl (by (try simp only [List.map_toArray, List.map_cons, List.map_nil]); first | done | rfl | (simp only [List.length_drop, List.length_take]; rfl)) ?_; (with_reducible refine (calendar_Date.calls t272 t279 t280 t281 _ A21.out (TabBefore.below hTBefore.out (by repeat (first | exact HB.out | exact Below.refl _ _ | apply below_alloc | apply pw_below_drewN | apply below_drew1 | apply below_drew)))).mono ?_); rintro e w66 ⟨rfl, hb⟩; refine ⟨_, rfl, ?_⟩; have n0_ := Aside0.mk (below_step (by repeat (first | (with_reducible first | exact HB.out | apply below_alloc | apply pw_below_drewN | apply below_drew1) | exact HB.out)) hb); clear HB; have HB := n0_; clear n0_; (try clear hb); (try clear hb2); (try clear hk); (try clear hi)))
            go_ret
            exact ⟨by first | rfl | (simp [errW_none, errW_some] <;> rfl) | (simp [*, errW_none, errW_some] <;> rfl), by repeat (first | (with_reducible first | exact HB.out | apply below_alloc | apply pw_below_drewN | apply below_drew1) | exact HB.out)⟩
        · replace c22 := Bool.eq_false_iff.mpr c22
          subst c22
          have H1 : (some false) = some r := by rw [if_neg (show ¬ (false = true) by decide)] at H; exact H
          clear H
          have H := H1
          clear H1
          obtain rfl := Option.some.inj H
          go_wp2_with (first | ((with_reducible refine gate_callee (f := 11) rfl ?_); refine goesL_ (some 63) rfl rfl Tryd.func11 (by kernel_rfl) rfl #[.int .i64 t268] rfl (by (try simp only [List.map_toArray, List.map_cons, List.map_nil]); first | done | rfl | (simp only [List.length_drop, List.length_take]; rfl)) ?_; (with_reducible refine (calendar_Date.calls t268 t276 t277 t278 _ A20.out (TabBefore.below hTBefore.out (by repeat (first | exact HB.out | exact Below.refl _ _ | apply below_alloc | apply pw_below_drewN | apply below_drew1 | apply below_drew)))).mono ?_); rintro e w67 ⟨rfl, hb⟩; refine ⟨_, rfl, ?_⟩; have n0_ := Aside0.mk (below_step (by repeat (first | (with_reducible first | exact HB.out | apply below_alloc | apply pw_below_drewN | apply below_drew1) | exact HB.out)) hb); clear HB; have HB := n0_; clear n0_; (try clear hb); (try clear hb2); (try clear hk); (try clear hi)) | ((with_reducible refine gate_callee (f := 11) rfl ?_); refine goesL_ (some 69) rfl rfl Tryd.func11 (by kernel_rfl) rfl #[.int .i64 t272] rfl (by (try simp only [List.map_toArray, List.map_cons, List.map_nil]); first | done | rfl | (simp only [List.length_drop, List.length_take]; rfl)) ?_; (with_reducible refine (calendar_Date.calls t272 t279 t280 t281 _ A21.out (TabBefore.below hTBefore.out (by repeat (first | exact HB.out | exact Below.refl _ _ | apply below_alloc | apply pw_below_drewN | apply below_drew1 | apply below_drew)))).mono ?_); rintro e w68 ⟨rfl, hb⟩; refine ⟨_, rfl, ?_⟩; have n0_ := Aside0.mk (below_step (by repeat (first | (with_reducible first | exact HB.out | apply below_alloc | apply pw_below_drewN | apply below_drew1) | exact HB.out)) hb); clear HB; have HB := n0_; clear n0_; (try clear hb); (try clear hb2); (try clear hk); (try clear hi)))
          go_ret
          exact ⟨by first | rfl | (simp [errW_none, errW_some] <;> rfl) | (simp [*, errW_none, errW_some] <;> rfl), by repeat (first | (with_reducible first | exact HB.out | apply below_alloc | apply pw_below_drewN | apply below_drew1) | exact HB.out)⟩

/-- THE ONE PURE STATEMENT of wageofficelaw02_CalendarLater: yours. -/
def wageofficelaw02_CalendarLater.Pure : Prop := ∀ (a0 : Int) (a1 : Int) (a2 : Int), (Lit.int .i64 a0).wf = true → (Lit.int .i64 a1).wf = true → (Lit.int .i64 a2).wf = true → ∃ k, wageofficelaw02_CalendarLater.f k a0 a1 a2 = some true
-- NOT PRINTED: function 8 (wageofficelaw02_CalendarOutside)

end Go.Proofs.YthakhcnpiobpgaaDoor.PAll
