-- Written by myprint.py over the kit's print.py (a printed text of this session's own make).
import Derived.Test.YthakhcnpiobpgaaDoorPAllx0
import Derived.Test.YthakhcnpiobpgaaDoorPAllx2
namespace Go.Proofs.YthakhcnpiobpgaaDoor.PAll
open Go.Proofs.YthakhcnpiobpgaaDoor.Stub Go.Proofs.YthakhcnpiobpgaaDoor.CalA
open Go.RowKit Go.Proofs.YthakhcnpiobpgaaDoorW.PrintWords Go.Proofs.YthakhcnpiobpgaaDoorW.PrintLast Go.Proofs.YthakhcnpiobpgaaDoorW.PrintMore
attribute [local go_sem] max2_int min2_int max_two min_two max_three min_three max_four min_four   -- for this text's walks alone
set_option linter.unusedVariables false
set_option linter.unusedSimpArgs false

/-! ### wageofficelaw02_CalendarMonths: function 6 -/
mutual
def wageofficelaw02_CalendarMonths.l0 : Nat → Int → Bool → Int → List Int → Int → Int → Option (Bool)
  | 0, _, _, _, _, _, _ => none
  | k + 1, x1, x5, x6, x27, x28, x29 => if x29 < x28 then (if 0 ≤ x29 then (if x29 < (x27.length : Int) then (if (rd x27 x29) < 0 then (wageofficelaw02_CalendarMonths.j1 k x1 x5 x6 (rd x27 x29) x27 x28 x29 true) else (wageofficelaw02_CalendarMonths.j1 k x1 x5 x6 (rd x27 x29) x27 x28 x29 (decide ((rd x27 x29) > 1199)))) else (none)) else (none)) else ((wageofficelaw02_pick.f x1 1153).bind fun t265 => (wageofficelaw02_CalendarMonths.l1 k x5 0 t265 0))
def wageofficelaw02_CalendarMonths.j1 : Nat → Int → Bool → Int → Int → List Int → Int → Int → Bool → Option (Bool)
  | 0, _, _, _, _, _, _, _, _ => none
  | k + 1, x1, x5, x6, x9, x27, x28, x29, x38 => if x38 = true then (wageofficelaw02_CalendarMonths.l0 k x1 x5 x6 x27 x28 (wrap64 (x29 + 1))) else ((calendar_First.f x9).bind fun t260 => ((calendar_Length.f x9).bind fun t261 => (if x5 = true then ((calendar_Month.f x6).bind fun t262 => (if x6 ≥ t260 then (if ((t262 == x9) == (decide (x6 < (wrap64 (t260 + t261))))) = true then (if t261 ≥ 28 then (if x9 < 1199 then (if t261 ≤ 31 then ((calendar_First.f (wrap64 (x9 + 1))).bind fun t263 => (wageofficelaw02_CalendarMonths.l0 k x1 (t263 == (wrap64 (t260 + t261))) x6 x27 x28 (wrap64 (x29 + 1)))) else (wageofficelaw02_CalendarMonths.l0 k x1 false x6 x27 x28 (wrap64 (x29 + 1)))) else (if t261 ≤ 31 then (wageofficelaw02_CalendarMonths.l0 k x1 ((wrap64 (t260 + t261)) == 36525) x6 x27 x28 (wrap64 (x29 + 1))) else (wageofficelaw02_CalendarMonths.l0 k x1 false x6 x27 x28 (wrap64 (x29 + 1))))) else (if x9 < 1199 then (wageofficelaw02_CalendarMonths.l0 k x1 false x6 x27 x28 (wrap64 (x29 + 1))) else (wageofficelaw02_CalendarMonths.l0 k x1 false x6 x27 x28 (wrap64 (x29 + 1))))) else (if x9 < 1199 then (wageofficelaw02_CalendarMonths.l0 k x1 false x6 x27 x28 (wrap64 (x29 + 1))) else (wageofficelaw02_CalendarMonths.l0 k x1 false x6 x27 x28 (wrap64 (x29 + 1))))) else (if ((t262 == x9) == false) = true then (if t261 ≥ 28 then (if x9 < 1199 then (if t261 ≤ 31 then ((calendar_First.f (wrap64 (x9 + 1))).bind fun t264 => (wageofficelaw02_CalendarMonths.l0 k x1 (t264 == (wrap64 (t260 + t261))) x6 x27 x28 (wrap64 (x29 + 1)))) else (wageofficelaw02_CalendarMonths.l0 k x1 false x6 x27 x28 (wrap64 (x29 + 1)))) else (if t261 ≤ 31 then (wageofficelaw02_CalendarMonths.l0 k x1 ((wrap64 (t260 + t261)) == 36525) x6 x27 x28 (wrap64 (x29 + 1))) else (wageofficelaw02_CalendarMonths.l0 k x1 false x6 x27 x28 (wrap64 (x29 + 1))))) else (if x9 < 1199 then (wageofficelaw02_CalendarMonths.l0 k x1 false x6 x27 x28 (wrap64 (x29 + 1))) else (wageofficelaw02_CalendarMonths.l0 k x1 false x6 x27 x28 (wrap64 (x29 + 1))))) else (if x9 < 1199 then (wageofficelaw02_CalendarMonths.l0 k x1 false x6 x27 x28 (wrap64 (x29 + 1))) else (wageofficelaw02_CalendarMonths.l0 k x1 false x6 x27 x28 (wrap64 (x29 + 1))))))) else (if x9 < 1199 then (wageofficelaw02_CalendarMonths.l0 k x1 false x6 x27 x28 (wrap64 (x29 + 1))) else (wageofficelaw02_CalendarMonths.l0 k x1 false x6 x27 x28 (wrap64 (x29 + 1)))))))
def wageofficelaw02_CalendarMonths.l1 : Nat → Bool → Int → Int → Int → Option (Bool)
  | 0, _, _, _, _ => none
  | k + 1, x5, x12, x13, x14 => if x14 < 48 then ((calendar_Length.f (wrap64 (x13 + x14))).bind fun t266 => (wageofficelaw02_CalendarMonths.l1 k x5 (wrap64 (x12 + t266)) x13 (wrap64 (x14 + 1)))) else (if x5 = true then (some (x12 == 1461)) else (some false))
end
def wageofficelaw02_CalendarMonths.f (k : Nat) (a0 : Int) (a1 : Int) : Option (Bool) := (wageofficelaw02_head.f k).bind fun t251 => ((wageofficelaw02_pick.f a0 36525).bind fun t252 => ((calendar_Month.f t252).bind fun t253 => ((wageofficelaw02_pick.f a1 3).bind fun t254 => ((wageofficelaw02_pick.f a1 1200).bind fun t255 => ((some (([t255, wrap64 ((wrap64 (t253 + t254)) - 1)] : List Int) : List Int)).bind fun y256 => (wageofficelaw02_CalendarMonths.l0 k a1 t251 t252 y256 (y256.length : Int) 0))))))
theorem wageofficelaw02_CalendarMonths.mono_l : ∀ k, (∀ y0 y1 y2 y3 y4 y5, LeO (wageofficelaw02_CalendarMonths.l0 k y0 y1 y2 y3 y4 y5) (wageofficelaw02_CalendarMonths.l0 (k + 1) y0 y1 y2 y3 y4 y5)) ∧ (∀ y0 y1 y2 y3 y4 y5 y6 y7, LeO (wageofficelaw02_CalendarMonths.j1 k y0 y1 y2 y3 y4 y5 y6 y7) (wageofficelaw02_CalendarMonths.j1 (k + 1) y0 y1 y2 y3 y4 y5 y6 y7)) ∧ (∀ y0 y1 y2 y3, LeO (wageofficelaw02_CalendarMonths.l1 k y0 y1 y2 y3) (wageofficelaw02_CalendarMonths.l1 (k + 1) y0 y1 y2 y3))
  | 0 => ⟨fun _ _ _ _ _ _ r h => by simp [wageofficelaw02_CalendarMonths.l0] at h, fun _ _ _ _ _ _ _ _ r h => by simp [wageofficelaw02_CalendarMonths.j1] at h, fun _ _ _ _ r h => by simp [wageofficelaw02_CalendarMonths.l1] at h⟩
  | k + 1 => by
    obtain ⟨ih0, ih1, ih2⟩ := wageofficelaw02_CalendarMonths.mono_l k
    refine ⟨?_, ?_, ?_⟩
    · intro y0 y1 y2 y3 y4 y5
      unfold wageofficelaw02_CalendarMonths.l0
      repeat' first
      | (with_reducible exact ih0 _ _ _ _ _ _)
      | (with_reducible exact ih1 _ _ _ _ _ _ _ _)
      | (with_reducible exact ih2 _ _ _ _)
      | (with_reducible exact wageofficelaw02_head.mono _)
      | (with_reducible exact LeO.refl _)
      | (with_reducible exact LeO.none _)
      | (with_reducible refine LeO.ite ?_ ?_)
      | (with_reducible refine LeO.bind ?_ (fun _ => ?_))
      | exact ih0 _ _ _ _ _ _
      | exact ih1 _ _ _ _ _ _ _ _
      | exact ih2 _ _ _ _
      | exact wageofficelaw02_head.mono _
      | exact LeO.none _
      | refine LeO.ite ?_ ?_
      | refine LeO.bind ?_ (fun _ => ?_)
    · intro y0 y1 y2 y3 y4 y5 y6 y7
      unfold wageofficelaw02_CalendarMonths.j1
      repeat' first
      | (with_reducible exact ih0 _ _ _ _ _ _)
      | (with_reducible exact ih1 _ _ _ _ _ _ _ _)
      | (with_reducible exact ih2 _ _ _ _)
      | (with_reducible exact wageofficelaw02_head.mono _)
      | (with_reducible exact LeO.refl _)
      | (with_reducible exact LeO.none _)
      | (with_reducible refine LeO.ite ?_ ?_)
      | (with_reducible refine LeO.bind ?_ (fun _ => ?_))
      | exact ih0 _ _ _ _ _ _
      | exact ih1 _ _ _ _ _ _ _ _
      | exact ih2 _ _ _ _
      | exact wageofficelaw02_head.mono _
      | exact LeO.none _
      | refine LeO.ite ?_ ?_
      | refine LeO.bind ?_ (fun _ => ?_)
    · intro y0 y1 y2 y3
      unfold wageofficelaw02_CalendarMonths.l1
      repeat' first
      | (with_reducible exact ih0 _ _ _ _ _ _)
      | (with_reducible exact ih1 _ _ _ _ _ _ _ _)
      | (with_reducible exact ih2 _ _ _ _)
      | (with_reducible exact wageofficelaw02_head.mono _)
      | (with_reducible exact LeO.refl _)
      | (with_reducible exact LeO.none _)
      | (with_reducible refine LeO.ite ?_ ?_)
      | (with_reducible refine LeO.bind ?_ (fun _ => ?_))
      | exact ih0 _ _ _ _ _ _
      | exact ih1 _ _ _ _ _ _ _ _
      | exact ih2 _ _ _ _
      | exact wageofficelaw02_head.mono _
      | exact LeO.none _
      | refine LeO.ite ?_ ?_
      | refine LeO.bind ?_ (fun _ => ?_)
theorem wageofficelaw02_CalendarMonths.mono : ∀ a0 a1 k, LeO (wageofficelaw02_CalendarMonths.f k a0 a1) (wageofficelaw02_CalendarMonths.f (k + 1) a0 a1) := by
  intro a0 a1 k
  obtain ⟨ih0, ih1, ih2⟩ := wageofficelaw02_CalendarMonths.mono_l k
  unfold wageofficelaw02_CalendarMonths.f
  repeat' first
      | (with_reducible exact ih0 _ _ _ _ _ _)
      | (with_reducible exact ih1 _ _ _ _ _ _ _ _)
      | (with_reducible exact ih2 _ _ _ _)
      | (with_reducible exact wageofficelaw02_head.mono _)
      | (with_reducible exact LeO.refl _)
      | (with_reducible exact LeO.none _)
      | (with_reducible refine LeO.ite ?_ ?_)
      | (with_reducible refine LeO.bind ?_ (fun _ => ?_))
      | exact ih0 _ _ _ _ _ _
      | exact ih1 _ _ _ _ _ _ _ _
      | exact ih2 _ _ _ _
      | exact wageofficelaw02_head.mono _
      | exact LeO.none _
      | refine LeO.ite ?_ ?_
      | refine LeO.bind ?_ (fun _ => ?_)
set_option maxHeartbeats 8000000 in
set_option maxRecDepth 100000 in
theorem wageofficelaw02_CalendarMonths.calls (k : Nat) (a0 : Int) (a1 : Int) (r : Bool) (w : World) (h : wageofficelaw02_CalendarMonths.f k a0 a1 = some r) (hTBefore0 : TabBefore w) :
    Calls Tryd.prog 6 #[.int .i64 a0, .int .i64 a1] w fun e w' => e = .returned (.bool r) ∧ Below w.heap.size w w' := by
  have hTBefore := Aside0.mk hTBefore0
  clear hTBefore0
  have HB := Aside0.mk (Below.refl w.heap.size w)
  have H : ((wageofficelaw02_head.f k).bind fun t251 => ((wageofficelaw02_pick.f a0 36525).bind fun t252 => ((calendar_Month.f t252).bind fun t253 => ((wageofficelaw02_pick.f a1 3).bind fun t254 => ((wageofficelaw02_pick.f a1 1200).bind fun t255 => ((some (([t255, wrap64 ((wrap64 (t253 + t254)) - 1)] : List Int) : List Int)).bind fun y256 => (wageofficelaw02_CalendarMonths.l0 k a1 t251 t252 y256 (y256.length : Int) 0))))))) = some r := h
  clear h
  replace H := Option.bind_eq_some_iff.mp H
  obtain ⟨t251, A30, H⟩ := H
  replace H : ((wageofficelaw02_pick.f a0 36525).bind fun t252 => ((calendar_Month.f t252).bind fun t253 => ((wageofficelaw02_pick.f a1 3).bind fun t254 => ((wageofficelaw02_pick.f a1 1200).bind fun t255 => ((some (([t255, wrap64 ((wrap64 (t253 + t254)) - 1)] : List Int) : List Int)).bind fun y256 => (wageofficelaw02_CalendarMonths.l0 k a1 t251 t252 y256 (y256.length : Int) 0)))))) = some r := H
  have A3 := Aside0.mk A30
  clear A30
  replace H := Option.bind_eq_some_iff.mp H
  obtain ⟨t252, A40, H⟩ := H
  replace H : ((calendar_Month.f t252).bind fun t253 => ((wageofficelaw02_pick.f a1 3).bind fun t254 => ((wageofficelaw02_pick.f a1 1200).bind fun t255 => ((some (([t255, wrap64 ((wrap64 (t253 + t254)) - 1)] : List Int) : List Int)).bind fun y256 => (wageofficelaw02_CalendarMonths.l0 k a1 t251 t252 y256 (y256.length : Int) 0))))) = some r := H
  have A4 := Aside0.mk A40
  clear A40
  replace H := Option.bind_eq_some_iff.mp H
  obtain ⟨t253, A50, H⟩ := H
  replace H : ((wageofficelaw02_pick.f a1 3).bind fun t254 => ((wageofficelaw02_pick.f a1 1200).bind fun t255 => ((some (([t255, wrap64 ((wrap64 (t253 + t254)) - 1)] : List Int) : List Int)).bind fun y256 => (wageofficelaw02_CalendarMonths.l0 k a1 t251 t252 y256 (y256.length : Int) 0)))) = some r := H
  have A5 := Aside0.mk A50
  clear A50
  replace H := Option.bind_eq_some_iff.mp H
  obtain ⟨t254, A60, H⟩ := H
  replace H : ((wageofficelaw02_pick.f a1 1200).bind fun t255 => ((some (([t255, wrap64 ((wrap64 (t253 + t254)) - 1)] : List Int) : List Int)).bind fun y256 => (wageofficelaw02_CalendarMonths.l0 k a1 t251 t252 y256 (y256.length : Int) 0))) = some r := H
  have A6 := Aside0.mk A60
  clear A60
  replace H := Option.bind_eq_some_iff.mp H
  obtain ⟨t255, A70, H⟩ := H
  replace H : ((some (([t255, wrap64 ((wrap64 (t253 + t254)) - 1)] : List Int) : List Int)).bind fun y256 => (wageofficelaw02_CalendarMonths.l0 k a1 t251 t252 y256 (y256.length : Int) 0)) = some r := H
  have A7 := Aside0.mk A70
  clear A70
  obtain ⟨y256, hy256⟩ : ∃ y_ : List Int, y_ = (([t255, wrap64 ((wrap64 (t253 + t254)) - 1)] : List Int)) := ⟨_, rfl⟩
  replace H : (wageofficelaw02_CalendarMonths.l0 k a1 t251 t252 y256 (y256.length : Int) 0) = some r := by first | (rw [hy256]; with_reducible exact H) | (have H2_ := (Option.bind_some _ _).symm.trans H; rw [hy256]; with_reducible exact H2_) | (have H2_ := (Option.bind_some _ _).symm.trans H; with_reducible exact H2_) | with_reducible exact H | (rw [hy256]; exact H) | exact H
  have Ny256 := Aside0.mk hy256
  clear hy256
  have H' := Aside0.mk H
  clear H
  go_enter Tryd.func6, Tryd.ntmps6
  go_wp2_with (first | ((with_reducible refine gate_callee (f := 9) rfl ?_); refine goesL_ (some 15) rfl rfl Tryd.func9 (by kernel_rfl) rfl #[] rfl (by (try simp only [List.map_toArray, List.map_cons, List.map_nil]); first | done | rfl | (simp only [List.length_drop, List.length_take]; rfl)) ?_; (with_reducible refine (wageofficelaw02_head.calls k  t251 _ A3.out (TabBefore.below hTBefore.out (by repeat (first | exact HB.out | exact Below.refl _ _ | apply below_alloc | apply pw_below_drewN | apply below_drew1 | apply below_drew)))).mono ?_); rintro e w8 ⟨rfl, hb⟩; refine ⟨_, rfl, ?_⟩; have n0_ := Aside0.mk (below_step (by repeat (first | (with_reducible first | exact HB.out | apply below_alloc | apply pw_below_drewN | apply below_drew1) | exact HB.out)) hb); clear HB; have HB := n0_; clear n0_; (try clear hb); (try clear hb2); (try clear hk); (try clear hi)) | ((with_reducible refine gate_callee (f := 10) rfl ?_); refine goesL_ (some 17) rfl rfl Tryd.func10 (by kernel_rfl) rfl #[.int .i64 a0, .int .i64 36525] rfl (by (try simp only [List.map_toArray, List.map_cons, List.map_nil]); first | done | rfl | (simp only [List.length_drop, List.length_take]; rfl)) ?_; (with_reducible refine (wageofficelaw02_pick.calls a0 36525 t252 _ A4.out).mono ?_); rintro e w' ⟨rfl, ⟨nd, rfl⟩⟩; refine ⟨_, rfl, ?_⟩) | ((with_reducible refine gate_callee (f := 17) rfl ?_); refine goesL_ (some 19) rfl rfl Tryd.func17 (by kernel_rfl) rfl #[.int .i64 t252] rfl (by (try simp only [List.map_toArray, List.map_cons, List.map_nil]); first | done | rfl | (simp only [List.length_drop, List.length_take]; rfl)) ?_; (with_reducible refine (calendar_Month.calls t252 t253 _ A5.out (TabBefore.below hTBefore.out (by repeat (first | exact HB.out | exact Below.refl _ _ | apply below_alloc | apply pw_below_drewN | apply below_drew1 | apply below_drew)))).mono ?_); rintro e w9 ⟨rfl, hb⟩; refine ⟨_, rfl, ?_⟩; have n0_ := Aside0.mk (below_step (by repeat (first | (with_reducible first | exact HB.out | apply below_alloc | apply pw_below_drewN | apply below_drew1) | exact HB.out)) hb); clear HB; have HB := n0_; clear n0_; (try clear hb); (try clear hb2); (try clear hk); (try clear hi)) | ((with_reducible refine gate_callee (f := 10) rfl ?_); refine goesL_ (some 21) rfl rfl Tryd.func10 (by kernel_rfl) rfl #[.int .i64 a1, .int .i64 3] rfl (by (try simp only [List.map_toArray, List.map_cons, List.map_nil]); first | done | rfl | (simp only [List.length_drop, List.length_take]; rfl)) ?_; (with_reducible refine (wageofficelaw02_pick.calls a1 3 t254 _ A6.out).mono ?_); rintro e w' ⟨rfl, ⟨nd, rfl⟩⟩; refine ⟨_, rfl, ?_⟩) | ((with_reducible refine gate_callee (f := 10) rfl ?_); refine goesL_ (some 25) rfl rfl Tryd.func10 (by kernel_rfl) rfl #[.int .i64 a1, .int .i64 1200] rfl (by (try simp only [List.map_toArray, List.map_cons, List.map_nil]); first | done | rfl | (simp only [List.length_drop, List.length_take]; rfl)) ?_; (with_reducible refine (wageofficelaw02_pick.calls a1 1200 t255 _ A7.out).mono ?_); rintro e w' ⟨rfl, ⟨nd, rfl⟩⟩; refine ⟨_, rfl, ?_⟩) | ((with_reducible refine gate_dst (N := 27) rfl ?_); refine Kd.R_lit (Kd.int .i64) _ 3 ?hg (N := 27) ?hd (xs := ([t255, wrap64 ((wrap64 (t253 + t254)) - 1)] : List Int)) (inner := [.int .i64 t255, .int .i64 (wrap64 ((wrap64 (t253 + t254)) - 1))]) (ok := fun _ => True) (okp := fun _ => True) ?hr ?hp (fun _ hk => hk) trivial (Below.refl _ _) (Nat.le_refl _) (by simp) ?_; (case hd => rfl); (case hg => rfl); (case hr => first | (go_simp; done) | (go_simp; rfl)); (case hp => exact (Reps.one (show Kd.M (Kd.int .i64) _ _ _ t255 [.int .i64 t255] from rfl) (Reps.one (show Kd.M (Kd.int .i64) _ _ _ (wrap64 ((wrap64 (t253 + t254)) - 1)) [.int .i64 (wrap64 ((wrap64 (t253 + t254)) - 1))] from rfl) (Reps.none _ _)))); intro v257 w10 ho11 hb hg_ hnew_; clear hg_ hnew_; (first | rw [← Ny256.out] at ho11 | (simp only [Int.reduceToNat] at ho11; rw [← Ny256.out] at ho11)); have n0_ := Aside0.mk (Kd.R_lower ho11 (below_size (by repeat (first | (with_reducible first | exact HB.out | apply below_alloc | apply pw_below_drewN | apply below_drew1) | exact HB.out)))); have n1_ := Aside0.mk (below_step (by repeat (first | (with_reducible first | exact HB.out | apply below_alloc | apply pw_below_drewN | apply below_drew1) | exact HB.out)) hb); clear HB; have HO258 := n0_; have HB := n1_; clear n0_ n1_; clear hb ho11; obtain ⟨Ao12, co12, eo12⟩ := Kd.R_slice HO258.out; subst eo12))
  go_loopg [5, 29] k (fun kq v5 v29 w' => ∃ (x5_1 : Bool) (x29_1 : Int), v5 = .bool x5_1 ∧ v29 = .int .i64 x29_1 ∧ Aside0 (wageofficelaw02_CalendarMonths.l0 kq a1 x5_1 t252 y256 (y256.length : Int) x29_1 = some r) ∧ Aside0 (kq ≤ k) ∧ Aside0 (Kd.R (Kd.int .i64) 3 w' w.heap.size (fun _ => True) (.slice Ao12 y256.length co12) y256) ∧ Aside0 (Below w.heap.size w w'))
  case atStart => exact ⟨(t251), (0), (by first | rfl | (simp; done) | (simp [*]; done)), (by first | rfl | (simp; done) | (simp [*]; done)), H', ⟨Nat.le_refl _⟩, ⟨by (with_reducible repeat (first | apply Kd.R_alloc | apply Kd.R_drewN | apply Kd.R_drew)); exact HO258.out⟩, ⟨by repeat (first | (with_reducible first | exact HB.out | apply below_alloc | apply pw_below_drewN | apply below_drew1) | exact HB.out)⟩⟩
  case round =>
    clear H'
    try clear c1
    try clear p2
    try clear c6
    try clear p6
    try clear c9
    try clear c10
    obtain ⟨x5_1, x29_1, rfl, rfl, HA, HK1, HO_27, HB⟩ := hrel
    cases gk with
    | zero => exact absurd HA.out (by simp [wageofficelaw02_CalendarMonths.l0])
    | succ k1 =>
      have H := HA.out
      clear HA
      simp only [wageofficelaw02_CalendarMonths.l0] at H
      by_cases c13 : x29_1 < (y256.length : Int)
      · rw [if_pos c13] at H
        have c13b0 : decide (x29_1 < (y256.length : Int)) = true := decide_eq_true c13
        clear c13
        by_cases c14 : 0 ≤ x29_1
        · rw [if_pos c14] at H
          have c14b0 : decide (0 ≤ x29_1) = true := decide_eq_true c14
          clear c14
          by_cases c15 : x29_1 < (y256.length : Int)
          · rw [if_pos c15] at H
            have c15b0 : decide (x29_1 < (y256.length : Int)) = true := decide_eq_true c15
            clear c15
            have HC16 := Aside0.mk H
            clear H
            have p259 : 0 ≤ (x29_1 : Int) := of_decide_eq_true (by first | (with_reducible assumption) | assumption)
            have q259 : x29_1 < (y256.length : Int) := of_decide_eq_true (by first | (with_reducible assumption) | assumption)
            obtain ⟨ad259, e259, hx259_0⟩ := Kd.at_int (Kd.R_reads' HO_27.out).2.2 x29_1 p259 q259
            cases e259
            replace p259 := eq_true p259
            replace q259 := eq_true q259
            go_upto_region 7 with (fail)
            go_cut [38] (fun v38 wc => ∃ (kq : Nat) (x38_15 : Bool), v38 = .bool x38_15 ∧ Aside0 (wageofficelaw02_CalendarMonths.j1 kq a1 x5_1 t252 (rd y256 x29_1) y256 (y256.length : Int) x29_1 x38_15 = some r) ∧ Aside0 (kq ≤ k1) ∧ Aside0 (Kd.R (Kd.int .i64) 3 wc w.heap.size (fun _ => True) (.slice (some ad259) y256.length co12) y256) ∧ Aside0 (Below w.heap.size w wc))
            case first =>
              have H := HC16.out
              clear HC16
              by_cases c17 : (rd y256 x29_1) < 0
              · rw [if_pos c17] at H
                have c17b0 : decide ((rd y256 x29_1) < 0) = true := decide_eq_true c17
                clear c17
                (first | rw [c17b0] | (simp only [i64_w, i32_w]; rw [c17b0]) | skip)
                have H' := Aside0.mk H
                clear H
                go_wp2
                go_meet
                case rel => exact ⟨_, (true), (by first | rfl | (simp; done) | (simp [*]; done)), H', ⟨by have := HK1.out; first | omega | exact Nat.le_refl _⟩, ⟨by (with_reducible repeat (first | apply Kd.R_alloc | apply Kd.R_drewN | apply Kd.R_drew)); exact HO_27.out⟩, ⟨by repeat (first | (with_reducible first | exact HB.out | apply below_alloc | apply pw_below_drewN | apply below_drew1) | exact HB.out)⟩⟩
              · rw [if_neg c17] at H
                have c17b0 : decide ((rd y256 x29_1) < 0) = false := decide_eq_false c17
                clear c17
                (first | rw [c17b0] | (simp only [i64_w, i32_w]; rw [c17b0]) | skip)
                have H' := Aside0.mk H
                clear H
                go_wp2
                go_meet
                case rel => exact ⟨_, (decide ((rd y256 x29_1) > 1199)), (by first | rfl | (simp; done) | (simp [*]; done)), H', ⟨by have := HK1.out; first | omega | exact Nat.le_refl _⟩, ⟨by (with_reducible repeat (first | apply Kd.R_alloc | apply Kd.R_drewN | apply Kd.R_drew)); exact HO_27.out⟩, ⟨by repeat (first | (with_reducible first | exact HB.out | apply below_alloc | apply pw_below_drewN | apply below_drew1) | exact HB.out)⟩⟩
            case rest =>
              clear HC16
              try clear c1
              try clear p2
              try clear q2
              try clear hx2
              try clear c6
              try clear p6
              try clear c9
              try clear c10
              try clear c13
              try clear c13b0
              try clear c14
              try clear c14b0
              try clear c15
              try clear c15b0
              try clear c17
              try clear c17b0
              try clear hx259_0
              try clear p2
              try clear p259
              try clear p6
              try clear q259
              obtain ⟨kq, x38_15, rfl, HA, HJ15, HO_27, HB⟩ := hcut
              cases kq with
              | zero => exact absurd HA.out (by simp [wageofficelaw02_CalendarMonths.j1])
              | succ kj15 =>
                have H := HA.out
                clear HA
                simp only [wageofficelaw02_CalendarMonths.j1] at H
                by_cases c18 : x38_15 = true
                · subst c18
                  have H1 : (wageofficelaw02_CalendarMonths.l0 kj15 a1 x5_1 t252 y256 (y256.length : Int) (wrap64 (x29_1 + 1))) = some r := by rw [if_pos rfl] at H; exact H
                  clear H
                  have H := H1
                  clear H1
                  have H' := Aside0.mk H
                  clear H
                  go_wp2
                  go_roundg kj15
                  case measure => have := HK1.out; have := HJ15.out; omega
                  case rel => exact ⟨(x5_1), (wrap64 (x29_1 + 1)), (by first | rfl | (simp; done) | (simp [*]; done)), (by first | rfl | (simp; done) | (simp [*]; done)), H', ⟨by have := HK1.out; have := HJ15.out; omega⟩, ⟨by (with_reducible repeat (first | apply Kd.R_alloc | apply Kd.R_drewN | apply Kd.R_drew)); exact HO_27.out⟩, ⟨by repeat (first | (with_reducible first | exact HB.out | apply below_alloc | apply pw_below_drewN | apply below_drew1) | exact HB.out)⟩⟩
                · replace c18 := Bool.eq_false_iff.mpr c18
                  subst c18
                  have H1 : ((calendar_First.f (rd y256 x29_1)).bind fun t260 => ((calendar_Length.f (rd y256 x29_1)).bind fun t261 => (if x5_1 = true then ((calendar_Month.f t252).bind fun t262 => (if t252 ≥ t260 then (if ((t262 == (rd y256 x29_1)) == (decide (t252 < (wrap64 (t260 + t261))))) = true then (if t261 ≥ 28 then (if (rd y256 x29_1) < 1199 then (if t261 ≤ 31 then ((calendar_First.f (wrap64 ((rd y256 x29_1) + 1))).bind fun t263 => (wageofficelaw02_CalendarMonths.l0 kj15 a1 (t263 == (wrap64 (t260 + t261))) t252 y256 (y256.length : Int) (wrap64 (x29_1 + 1)))) else (wageofficelaw02_CalendarMonths.l0 kj15 a1 false t252 y256 (y256.length : Int) (wrap64 (x29_1 + 1)))) else (if t261 ≤ 31 then (wageofficelaw02_CalendarMonths.l0 kj15 a1 ((wrap64 (t260 + t261)) == 36525) t252 y256 (y256.length : Int) (wrap64 (x29_1 + 1))) else (wageofficelaw02_CalendarMonths.l0 kj15 a1 false t252 y256 (y256.length : Int) (wrap64 (x29_1 + 1))))) else (if (rd y256 x29_1) < 1199 then (wageofficelaw02_CalendarMonths.l0 kj15 a1 false t252 y256 (y256.length : Int) (wrap64 (x29_1 + 1))) else (wageofficelaw02_CalendarMonths.l0 kj15 a1 false t252 y256 (y256.length : Int) (wrap64 (x29_1 + 1))))) else (if (rd y256 x29_1) < 1199 then (wageofficelaw02_CalendarMonths.l0 kj15 a1 false t252 y256 (y256.length : Int) (wrap64 (x29_1 + 1))) else (wageofficelaw02_CalendarMonths.l0 kj15 a1 false t252 y256 (y256.length : Int) (wrap64 (x29_1 + 1))))) else (if ((t262 == (rd y256 x29_1)) == false) = true then (if t261 ≥ 28 then (if (rd y256 x29_1) < 1199 then (if t261 ≤ 31 then ((calendar_First.f (wrap64 ((rd y256 x29_1) + 1))).bind fun t264 => (wageofficelaw02_CalendarMonths.l0 kj15 a1 (t264 == (wrap64 (t260 + t261))) t252 y256 (y256.length : Int) (wrap64 (x29_1 + 1)))) else (wageofficelaw02_CalendarMonths.l0 kj15 a1 false t252 y256 (y256.length : Int) (wrap64 (x29_1 + 1)))) else (if t261 ≤ 31 then (wageofficelaw02_CalendarMonths.l0 kj15 a1 ((wrap64 (t260 + t261)) == 36525) t252 y256 (y256.length : Int) (wrap64 (x29_1 + 1))) else (wageofficelaw02_CalendarMonths.l0 kj15 a1 false t252 y256 (y256.length : Int) (wrap64 (x29_1 + 1))))) else (if (rd y256 x29_1) < 1199 then (wageofficelaw02_CalendarMonths.l0 kj15 a1 false t252 y256 (y256.length : Int) (wrap64 (x29_1 + 1))) else (wageofficelaw02_CalendarMonths.l0 kj15 a1 false t252 y256 (y256.length : Int) (wrap64 (x29_1 + 1))))) else (if (rd y256 x29_1) < 1199 then (wageofficelaw02_CalendarMonths.l0 kj15 a1 false t252 y256 (y256.length : Int) (wrap64 (x29_1 + 1))) else (wageofficelaw02_CalendarMonths.l0 kj15 a1 false t252 y256 (y256.length : Int) (wrap64 (x29_1 + 1))))))) else (if (rd y256 x29_1) < 1199 then (wageofficelaw02_CalendarMonths.l0 kj15 a1 false t252 y256 (y256.length : Int) (wrap64 (x29_1 + 1))) else (wageofficelaw02_CalendarMonths.l0 kj15 a1 false t252 y256 (y256.length : Int) (wrap64 (x29_1 + 1))))))) = some r := by rw [if_neg (show ¬ (false = true) by decide)] at H; exact H
                  clear H
                  have H := H1
                  clear H1
                  replace H := Option.bind_eq_some_iff.mp H
                  obtain ⟨t260, A190, H⟩ := H
                  replace H : ((calendar_Length.f (rd y256 x29_1)).bind fun t261 => (if x5_1 = true then ((calendar_Month.f t252).bind fun t262 => (if t252 ≥ t260 then (if ((t262 == (rd y256 x29_1)) == (decide (t252 < (wrap64 (t260 + t261))))) = true then (if t261 ≥ 28 then (if (rd y256 x29_1) < 1199 then (if t261 ≤ 31 then ((calendar_First.f (wrap64 ((rd y256 x29_1) + 1))).bind fun t263 => (wageofficelaw02_CalendarMonths.l0 kj15 a1 (t263 == (wrap64 (t260 + t261))) t252 y256 (y256.length : Int) (wrap64 (x29_1 + 1)))) else (wageofficelaw02_CalendarMonths.l0 kj15 a1 false t252 y256 (y256.length : Int) (wrap64 (x29_1 + 1)))) else (if t261 ≤ 31 then (wageofficelaw02_CalendarMonths.l0 kj15 a1 ((wrap64 (t260 + t261)) == 36525) t252 y256 (y256.length : Int) (wrap64 (x29_1 + 1))) else (wageofficelaw02_CalendarMonths.l0 kj15 a1 false t252 y256 (y256.length : Int) (wrap64 (x29_1 + 1))))) else (if (rd y256 x29_1) < 1199 then (wageofficelaw02_CalendarMonths.l0 kj15 a1 false t252 y256 (y256.length : Int) (wrap64 (x29_1 + 1))) else (wageofficelaw02_CalendarMonths.l0 kj15 a1 false t252 y256 (y256.length : Int) (wrap64 (x29_1 + 1))))) else (if (rd y256 x29_1) < 1199 then (wageofficelaw02_CalendarMonths.l0 kj15 a1 false t252 y256 (y256.length : Int) (wrap64 (x29_1 + 1))) else (wageofficelaw02_CalendarMonths.l0 kj15 a1 false t252 y256 (y256.length : Int) (wrap64 (x29_1 + 1))))) else (if ((t262 == (rd y256 x29_1)) == false) = true then (if t261 ≥ 28 then (if (rd y256 x29_1) < 1199 then (if t261 ≤ 31 then ((calendar_First.f (wrap64 ((rd y256 x29_1) + 1))).bind fun t264 => (wageofficelaw02_CalendarMonths.l0 kj15 a1 (t264 == (wrap64 (t260 + t261))) t252 y256 (y256.length : Int) (wrap64 (x29_1 + 1)))) else (wageofficelaw02_CalendarMonths.l0 kj15 a1 false t252 y256 (y256.length : Int) (wrap64 (x29_1 + 1)))) else (if t261 ≤ 31 then (wageofficelaw02_CalendarMonths.l0 kj15 a1 ((wrap64 (t260 + t261)) == 36525) t252 y256 (y256.length : Int) (wrap64 (x29_1 + 1))) else (wageofficelaw02_CalendarMonths.l0 kj15 a1 false t252 y256 (y256.length : Int) (wrap64 (x29_1 + 1))))) else (if (rd y256 x29_1) < 1199 then (wageofficelaw02_CalendarMonths.l0 kj15 a1 false t252 y256 (y256.length : Int) (wrap64 (x29_1 + 1))) else (wageofficelaw02_CalendarMonths.l0 kj15 a1 false t252 y256 (y256.length : Int) (wrap64 (x29_1 + 1))))) else (if (rd y256 x29_1) < 1199 then (wageofficelaw02_CalendarMonths.l0 kj15 a1 false t252 y256 (y256.length : Int) (wrap64 (x29_1 + 1))) else (wageofficelaw02_CalendarMonths.l0 kj15 a1 false t252 y256 (y256.length : Int) (wrap64 (x29_1 + 1))))))) else (if (rd y256 x29_1) < 1199 then (wageofficelaw02_CalendarMonths.l0 kj15 a1 false t252 y256 (y256.length : Int) (wrap64 (x29_1 + 1))) else (wageofficelaw02_CalendarMonths.l0 kj15 a1 false t252 y256 (y256.length : Int) (wrap64 (x29_1 + 1)))))) = some r := H
                  have A19 := Aside0.mk A190
                  clear A190
                  replace H := Option.bind_eq_some_iff.mp H
                  obtain ⟨t261, A200, H⟩ := H
                  replace H : (if x5_1 = true then ((calendar_Month.f t252).bind fun t262 => (if t252 ≥ t260 then (if ((t262 == (rd y256 x29_1)) == (decide (t252 < (wrap64 (t260 + t261))))) = true then (if t261 ≥ 28 then (if (rd y256 x29_1) < 1199 then (if t261 ≤ 31 then ((calendar_First.f (wrap64 ((rd y256 x29_1) + 1))).bind fun t263 => (wageofficelaw02_CalendarMonths.l0 kj15 a1 (t263 == (wrap64 (t260 + t261))) t252 y256 (y256.length : Int) (wrap64 (x29_1 + 1)))) else (wageofficelaw02_CalendarMonths.l0 kj15 a1 false t252 y256 (y256.length : Int) (wrap64 (x29_1 + 1)))) else (if t261 ≤ 31 then (wageofficelaw02_CalendarMonths.l0 kj15 a1 ((wrap64 (t260 + t261)) == 36525) t252 y256 (y256.length : Int) (wrap64 (x29_1 + 1))) else (wageofficelaw02_CalendarMonths.l0 kj15 a1 false t252 y256 (y256.length : Int) (wrap64 (x29_1 + 1))))) else (if (rd y256 x29_1) < 1199 then (wageofficelaw02_CalendarMonths.l0 kj15 a1 false t252 y256 (y256.length : Int) (wrap64 (x29_1 + 1))) else (wageofficelaw02_CalendarMonths.l0 kj15 a1 false t252 y256 (y256.length : Int) (wrap64 (x29_1 + 1))))) else (if (rd y256 x29_1) < 1199 then (wageofficelaw02_CalendarMonths.l0 kj15 a1 false t252 y256 (y256.length : Int) (wrap64 (x29_1 + 1))) else (wageofficelaw02_CalendarMonths.l0 kj15 a1 false t252 y256 (y256.length : Int) (wrap64 (x29_1 + 1))))) else (if ((t262 == (rd y256 x29_1)) == false) = true then (if t261 ≥ 28 then (if (rd y256 x29_1) < 1199 then (if t261 ≤ 31 then ((calendar_First.f (wrap64 ((rd y256 x29_1) + 1))).bind fun t264 => (wageofficelaw02_CalendarMonths.l0 kj15 a1 (t264 == (wrap64 (t260 + t261))) t252 y256 (y256.length : Int) (wrap64 (x29_1 + 1)))) else (wageofficelaw02_CalendarMonths.l0 kj15 a1 false t252 y256 (y256.length : Int) (wrap64 (x29_1 + 1)))) else (if t261 ≤ 31 then (wageofficelaw02_CalendarMonths.l0 kj15 a1 ((wrap64 (t260 + t261)) == 36525) t252 y256 (y256.length : Int) (wrap64 (x29_1 + 1))) else (wageofficelaw02_CalendarMonths.l0 kj15 a1 false t252 y256 (y256.length : Int) (wrap64 (x29_1 + 1))))) else (if (rd y256 x29_1) < 1199 then (wageofficelaw02_CalendarMonths.l0 kj15 a1 false t252 y256 (y256.length : Int) (wrap64 (x29_1 + 1))) else (wageofficelaw02_CalendarMonths.l0 kj15 a1 false t252 y256 (y256.length : Int) (wrap64 (x29_1 + 1))))) else (if (rd y256 x29_1) < 1199 then (wageofficelaw02_CalendarMonths.l0 kj15 a1 false t252 y256 (y256.length : Int) (wrap64 (x29_1 + 1))) else (wageofficelaw02_CalendarMonths.l0 kj15 a1 false t252 y256 (y256.length : Int) (wrap64 (x29_1 + 1))))))) else (if (rd y256 x29_1) < 1199 then (wageofficelaw02_CalendarMonths.l0 kj15 a1 false t252 y256 (y256.length : Int) (wrap64 (x29_1 + 1))) else (wageofficelaw02_CalendarMonths.l0 kj15 a1 false t252 y256 (y256.length : Int) (wrap64 (x29_1 + 1))))) = some r := H
                  have A20 := Aside0.mk A200
                  clear A200
                  by_cases c21 : x5_1 = true
                  · subst c21
                    have H1 : ((calendar_Month.f t252).bind fun t262 => (if t252 ≥ t260 then (if ((t262 == (rd y256 x29_1)) == (decide (t252 < (wrap64 (t260 + t261))))) = true then (if t261 ≥ 28 then (if (rd y256 x29_1) < 1199 then (if t261 ≤ 31 then ((calendar_First.f (wrap64 ((rd y256 x29_1) + 1))).bind fun t263 => (wageofficelaw02_CalendarMonths.l0 kj15 a1 (t263 == (wrap64 (t260 + t261))) t252 y256 (y256.length : Int) (wrap64 (x29_1 + 1)))) else (wageofficelaw02_CalendarMonths.l0 kj15 a1 false t252 y256 (y256.length : Int) (wrap64 (x29_1 + 1)))) else (if t261 ≤ 31 then (wageofficelaw02_CalendarMonths.l0 kj15 a1 ((wrap64 (t260 + t261)) == 36525) t252 y256 (y256.length : Int) (wrap64 (x29_1 + 1))) else (wageofficelaw02_CalendarMonths.l0 kj15 a1 false t252 y256 (y256.length : Int) (wrap64 (x29_1 + 1))))) else (if (rd y256 x29_1) < 1199 then (wageofficelaw02_CalendarMonths.l0 kj15 a1 false t252 y256 (y256.length : Int) (wrap64 (x29_1 + 1))) else (wageofficelaw02_CalendarMonths.l0 kj15 a1 false t252 y256 (y256.length : Int) (wrap64 (x29_1 + 1))))) else (if (rd y256 x29_1) < 1199 then (wageofficelaw02_CalendarMonths.l0 kj15 a1 false t252 y256 (y256.length : Int) (wrap64 (x29_1 + 1))) else (wageofficelaw02_CalendarMonths.l0 kj15 a1 false t252 y256 (y256.length : Int) (wrap64 (x29_1 + 1))))) else (if ((t262 == (rd y256 x29_1)) == false) = true then (if t261 ≥ 28 then (if (rd y256 x29_1) < 1199 then (if t261 ≤ 31 then ((calendar_First.f (wrap64 ((rd y256 x29_1) + 1))).bind fun t264 => (wageofficelaw02_CalendarMonths.l0 kj15 a1 (t264 == (wrap64 (t260 + t261))) t252 y256 (y256.length : Int) (wrap64 (x29_1 + 1)))) else (wageofficelaw02_CalendarMonths.l0 kj15 a1 false t252 y256 (y256.length : Int) (wrap64 (x29_1 + 1)))) else (if t261 ≤ 31 then (wageofficelaw02_CalendarMonths.l0 kj15 a1 ((wrap64 (t260 + t261)) == 36525) t252 y256 (y256.length : Int) (wrap64 (x29_1 + 1))) else (wageofficelaw02_CalendarMonths.l0 kj15 a1 false t252 y256 (y256.length : Int) (wrap64 (x29_1 + 1))))) else (if (rd y256 x29_1) < 1199 then (wageofficelaw02_CalendarMonths.l0 kj15 a1 false t252 y256 (y256.length : Int) (wrap64 (x29_1 + 1))) else (wageofficelaw02_CalendarMonths.l0 kj15 a1 false t252 y256 (y256.length : Int) (wrap64 (x29_1 + 1))))) else (if (rd y256 x29_1) < 1199 then (wageofficelaw02_CalendarMonths.l0 kj15 a1 false t252 y256 (y256.length : Int) (wrap64 (x29_1 + 1))) else (wageofficelaw02_CalendarMonths.l0 kj15 a1 false t252 y256 (y256.length : Int) (wrap64 (x29_1 + 1))))))) = some r := by rw [if_pos rfl] at H; exact H
                    clear H
                    have H := H1
                    clear H1
                    replace H := Option.bind_eq_some_iff.mp H
                    obtain ⟨t262, A220, H⟩ := H
                    replace H : (if t252 ≥ t260 then (if ((t262 == (rd y256 x29_1)) == (decide (t252 < (wrap64 (t260 + t261))))) = true then (if t261 ≥ 28 then (if (rd y256 x29_1) < 1199 then (if t261 ≤ 31 then ((calendar_First.f (wrap64 ((rd y256 x29_1) + 1))).bind fun t263 => (wageofficelaw02_CalendarMonths.l0 kj15 a1 (t263 == (wrap64 (t260 + t261))) t252 y256 (y256.length : Int) (wrap64 (x29_1 + 1)))) else (wageofficelaw02_CalendarMonths.l0 kj15 a1 false t252 y256 (y256.length : Int) (wrap64 (x29_1 + 1)))) else (if t261 ≤ 31 then (wageofficelaw02_CalendarMonths.l0 kj15 a1 ((wrap64 (t260 + t261)) == 36525) t252 y256 (y256.length : Int) (wrap64 (x29_1 + 1))) else (wageofficelaw02_CalendarMonths.l0 kj15 a1 false t252 y256 (y256.length : Int) (wrap64 (x29_1 + 1))))) else (if (rd y256 x29_1) < 1199 then (wageofficelaw02_CalendarMonths.l0 kj15 a1 false t252 y256 (y256.length : Int) (wrap64 (x29_1 + 1))) else (wageofficelaw02_CalendarMonths.l0 kj15 a1 false t252 y256 (y256.length : Int) (wrap64 (x29_1 + 1))))) else (if (rd y256 x29_1) < 1199 then (wageofficelaw02_CalendarMonths.l0 kj15 a1 false t252 y256 (y256.length : Int) (wrap64 (x29_1 + 1))) else (wageofficelaw02_CalendarMonths.l0 kj15 a1 false t252 y256 (y256.length : Int) (wrap64 (x29_1 + 1))))) else (if ((t262 == (rd y256 x29_1)) == false) = true then (if t261 ≥ 28 then (if (rd y256 x29_1) < 1199 then (if t261 ≤ 31 then ((calendar_First.f (wrap64 ((rd y256 x29_1) + 1))).bind fun t264 => (wageofficelaw02_CalendarMonths.l0 kj15 a1 (t264 == (wrap64 (t260 + t261))) t252 y256 (y256.length : Int) (wrap64 (x29_1 + 1)))) else (wageofficelaw02_CalendarMonths.l0 kj15 a1 false t252 y256 (y256.length : Int) (wrap64 (x29_1 + 1)))) else (if t261 ≤ 31 then (wageofficelaw02_CalendarMonths.l0 kj15 a1 ((wrap64 (t260 + t261)) == 36525) t252 y256 (y256.length : Int) (wrap64 (x29_1 + 1))) else (wageofficelaw02_CalendarMonths.l0 kj15 a1 false t252 y256 (y256.length : Int) (wrap64 (x29_1 + 1))))) else (if (rd y256 x29_1) < 1199 then (wageofficelaw02_CalendarMonths.l0 kj15 a1 false t252 y256 (y256.length : Int) (wrap64 (x29_1 + 1))) else (wageofficelaw02_CalendarMonths.l0 kj15 a1 false t252 y256 (y256.length : Int) (wrap64 (x29_1 + 1))))) else (if (rd y256 x29_1) < 1199 then (wageofficelaw02_CalendarMonths.l0 kj15 a1 false t252 y256 (y256.length : Int) (wrap64 (x29_1 + 1))) else (wageofficelaw02_CalendarMonths.l0 kj15 a1 false t252 y256 (y256.length : Int) (wrap64 (x29_1 + 1)))))) = some r := H
                    have A22 := Aside0.mk A220
                    clear A220
                    obtain rfl : t253 = t262 := Option.some.inj (A5.out.symm.trans A22.out)
                    by_cases c23 : t252 ≥ t260
                    · rw [if_pos c23] at H
                      have c23b0 : decide (t260 ≤ t252) = true := decide_eq_true c23
                      clear c23
                      by_cases c24 : ((t253 == (rd y256 x29_1)) == (decide (t252 < (wrap64 (t260 + t261))))) = true
                      · rw [if_pos c24] at H
                        have c24b0 : ((t253 == (rd y256 x29_1)) == (decide (t252 < (wrap64 (t260 + t261))))) = true := c24
                        (try (have c24b1 : decide ((t253 == (rd y256 x29_1)) = (decide (t252 < (wrap64 (t260 + t261))))) = true := by simpa using c24))
                        (try (have c24b2 : ((t253 == (rd y256 x29_1)) == (decide (t252 < (wrap64 (t260 + t261))))) = true := by simpa using c24))
                        clear c24
                        by_cases c25 : t261 ≥ 28
                        · rw [if_pos c25] at H
                          have c25b0 : decide (28 ≤ t261) = true := decide_eq_true c25
                          clear c25
                          by_cases c26 : (rd y256 x29_1) < 1199
                          · rw [if_pos c26] at H
                            have c26b0 : decide ((rd y256 x29_1) < 1199) = true := decide_eq_true c26
                            clear c26
                            by_cases c27 : t261 ≤ 31
                            · rw [if_pos c27] at H
                              have c27b0 : decide (t261 ≤ 31) = true := decide_eq_true c27
                              clear c27
                              replace H := Option.bind_eq_some_iff.mp H
                              obtain ⟨t263, A280, H⟩ := H
                              replace H : (wageofficelaw02_CalendarMonths.l0 kj15 a1 (t263 == (wrap64 (t260 + t261))) t252 y256 (y256.length : Int) (wrap64 (x29_1 + 1))) = some r := H
                              have A28 := Aside0.mk A280
                              clear A280
                              have H' := Aside0.mk H
                              clear H
                              go_wp2_with (first | ((with_reducible refine gate_callee (f := 21) rfl ?_); refine goesL_ (some 40) rfl rfl Tryd.func21 (by kernel_rfl) rfl #[.int .i64 (rd y256 x29_1)] rfl (by (try simp only [List.map_toArray, List.map_cons, List.map_nil]); first | done | rfl | (simp only [List.length_drop, List.length_take]; rfl)) ?_; (with_reducible refine (calendar_First.calls (rd y256 x29_1) t260 _ A19.out (TabBefore.below hTBefore.out (by repeat (first | exact HB.out | exact Below.refl _ _ | apply below_alloc | apply pw_below_drewN | apply below_drew1 | apply below_drew)))).mono ?_); rintro e w29 ⟨rfl, hb⟩; refine ⟨_, rfl, ?_⟩; have n0_ := Aside0.mk (Kd.R_below (by (with_reducible repeat (first | apply Kd.R_alloc | apply Kd.R_drewN | apply Kd.R_drew)); exact HO_27.out) hb); have n1_ := Aside0.mk (below_step (by repeat (first | (with_reducible first | exact HB.out | apply below_alloc | apply pw_below_drewN | apply below_drew1) | exact HB.out)) hb); clear HO_27; clear HB; have HO_27 := n0_; have HB := n1_; clear n0_ n1_; (try clear hb); (try clear hb2); (try clear hk); (try clear hi)) | ((with_reducible refine gate_callee (f := 23) rfl ?_); refine goesL_ (some 42) rfl rfl Tryd.func23 (by kernel_rfl) rfl #[.int .i64 (rd y256 x29_1)] rfl (by (try simp only [List.map_toArray, List.map_cons, List.map_nil]); first | done | rfl | (simp only [List.length_drop, List.length_take]; rfl)) ?_; (with_reducible refine (calendar_Length.calls (rd y256 x29_1) t261 _ A20.out (TabBefore.below hTBefore.out (by repeat (first | exact HB.out | exact Below.refl _ _ | apply below_alloc | apply pw_below_drewN | apply below_drew1 | apply below_drew)))).mono ?_); rintro e w30 ⟨rfl, hb⟩; refine ⟨_, rfl, ?_⟩; have n0_ := Aside0.mk (Kd.R_below (by (with_reducible repeat (first | apply Kd.R_alloc | apply Kd.R_drewN | apply Kd.R_drew)); exact HO_27.out) hb); have n1_ := Aside0.mk (below_step (by repeat (first | (with_reducible first | exact HB.out | apply below_alloc | apply pw_below_drewN | apply below_drew1) | exact HB.out)) hb); clear HO_27; clear HB; have HO_27 := n0_; have HB := n1_; clear n0_ n1_; (try clear hb); (try clear hb2); (try clear hk); (try clear hi)) | (go_at_call 17; (with_reducible refine (calendar_Month.calls t252 t253 _ A22.out (TabBefore.below hTBefore.out (by repeat (first | exact HB.out | exact Below.refl _ _ | apply below_alloc | apply pw_below_drewN | apply below_drew1 | apply below_drew)))).mono ?_); rintro e w31 ⟨rfl, hb⟩; have n0_ := Aside0.mk (Kd.R_below (by (with_reducible repeat (first | apply Kd.R_alloc | apply Kd.R_drewN | apply Kd.R_drew)); exact HO_27.out) hb); have n1_ := Aside0.mk (below_step (by repeat (first | (with_reducible first | exact HB.out | apply below_alloc | apply pw_below_drewN | apply below_drew1) | exact HB.out)) hb); clear HO_27; clear HB; have HO_27 := n0_; have HB := n1_; clear n0_ n1_; (try clear hb); (try clear hb2); (try clear hk); (try clear hi)) | (go_at_call 21; (with_reducible refine (calendar_First.calls (wrap64 ((rd y256 x29_1) + 1)) t263 _ A28.out (TabBefore.below hTBefore.out (by repeat (first | exact HB.out | exact Below.refl _ _ | apply below_alloc | apply pw_below_drewN | apply below_drew1 | apply below_drew)))).mono ?_); rintro e w32 ⟨rfl, hb⟩; have n0_ := Aside0.mk (Kd.R_below (by (with_reducible repeat (first | apply Kd.R_alloc | apply Kd.R_drewN | apply Kd.R_drew)); exact HO_27.out) hb); have n1_ := Aside0.mk (below_step (by repeat (first | (with_reducible first | exact HB.out | apply below_alloc | apply pw_below_drewN | apply below_drew1) | exact HB.out)) hb); clear HO_27; clear HB; have HO_27 := n0_; have HB := n1_; clear n0_ n1_; (try clear hb); (try clear hb2); (try clear hk); (try clear hi)))
                              go_roundg kj15
                              case measure => have := HK1.out; have := HJ15.out; omega
                              case rel => exact ⟨((t263 == (wrap64 (t260 + t261)))), (wrap64 (x29_1 + 1)), (by first | rfl | (simp; done) | (simp [*]; done)), (by first | rfl | (simp; done) | (simp [*]; done)), H', ⟨by have := HK1.out; have := HJ15.out; omega⟩, ⟨by (with_reducible repeat (first | apply Kd.R_alloc | apply Kd.R_drewN | apply Kd.R_drew)); exact HO_27.out⟩, ⟨by repeat (first | (with_reducible first | exact HB.out | apply below_alloc | apply pw_below_drewN | apply below_drew1) | exact HB.out)⟩⟩
                            · rw [if_neg c27] at H
                              have c27b0 : decide (t261 ≤ 31) = false := decide_eq_false c27
                              clear c27
                              have H' := Aside0.mk H
                              clear H
                              go_wp2_with (first | ((with_reducible refine gate_callee (f := 21) rfl ?_); refine goesL_ (some 40) rfl rfl Tryd.func21 (by kernel_rfl) rfl #[.int .i64 (rd y256 x29_1)] rfl (by (try simp only [List.map_toArray, List.map_cons, List.map_nil]); first | done | rfl | (simp only [List.length_drop, List.length_take]; rfl)) ?_; (with_reducible refine (calendar_First.calls (rd y256 x29_1) t260 _ A19.out (TabBefore.below hTBefore.out (by repeat (first | exact HB.out | exact Below.refl _ _ | apply below_alloc | apply pw_below_drewN | apply below_drew1 | apply below_drew)))).mono ?_); rintro e w33 ⟨rfl, hb⟩; refine ⟨_, rfl, ?_⟩; have n0_ := Aside0.mk (Kd.R_below (by (with_reducible repeat (first | apply Kd.R_alloc | apply Kd.R_drewN | apply Kd.R_drew)); exact HO_27.out) hb); have n1_ := Aside0.mk (below_step (by repeat (first | (with_reducible first | exact HB.out | apply below_alloc | apply pw_below_drewN | apply below_drew1) | exact HB.out)) hb); clear HO_27; clear HB; have HO_27 := n0_; have HB := n1_; clear n0_ n1_; (try clear hb); (try clear hb2); (try clear hk); (try clear hi)) | ((with_reducible refine gate_callee (f := 23) rfl ?_); refine goesL_ (some 42) rfl rfl Tryd.func23 (by kernel_rfl) rfl #[.int .i64 (rd y256 x29_1)] rfl (by (try simp only [List.map_toArray, List.map_cons, List.map_nil]); first | done | rfl | (simp only [List.length_drop, List.length_take]; rfl)) ?_; (with_reducible refine (calendar_Length.calls (rd y256 x29_1) t261 _ A20.out (TabBefore.below hTBefore.out (by repeat (first | exact HB.out | exact Below.refl _ _ | apply below_alloc | apply pw_below_drewN | apply below_drew1 | apply below_drew)))).mono ?_); rintro e w34 ⟨rfl, hb⟩; refine ⟨_, rfl, ?_⟩; have n0_ := Aside0.mk (Kd.R_below (by (with_reducible repeat (first | apply Kd.R_alloc | apply Kd.R_drewN | apply Kd.R_drew)); exact HO_27.out) hb); have n1_ := Aside0.mk (below_step (by repeat (first | (with_reducible first | exact HB.out | apply below_alloc | apply pw_below_drewN | apply below_drew1) | exact HB.out)) hb); clear HO_27; clear HB; have HO_27 := n0_; have HB := n1_; clear n0_ n1_; (try clear hb); (try clear hb2); (try clear hk); (try clear hi)) | (go_at_call 17; (with_reducible refine (calendar_Month.calls t252 t253 _ A22.out (TabBefore.below hTBefore.out (by repeat (first | exact HB.out | exact Below.refl _ _ | apply below_alloc | apply pw_below_drewN | apply below_drew1 | apply below_drew)))).mono ?_); rintro e w35 ⟨rfl, hb⟩; have n0_ := Aside0.mk (Kd.R_below (by (with_reducible repeat (first | apply Kd.R_alloc | apply Kd.R_drewN | apply Kd.R_drew)); exact HO_27.out) hb); have n1_ := Aside0.mk (below_step (by repeat (first | (with_reducible first | exact HB.out | apply below_alloc | apply pw_below_drewN | apply below_drew1) | exact HB.out)) hb); clear HO_27; clear HB; have HO_27 := n0_; have HB := n1_; clear n0_ n1_; (try clear hb); (try clear hb2); (try clear hk); (try clear hi)))
                              go_roundg kj15
                              case measure => have := HK1.out; have := HJ15.out; omega
                              case rel => exact ⟨(false), (wrap64 (x29_1 + 1)), (by first | rfl | (simp; done) | (simp [*]; done)), (by first | rfl | (simp; done) | (simp [*]; done)), H', ⟨by have := HK1.out; have := HJ15.out; omega⟩, ⟨by (with_reducible repeat (first | apply Kd.R_alloc | apply Kd.R_drewN | apply Kd.R_drew)); exact HO_27.out⟩, ⟨by repeat (first | (with_reducible first | exact HB.out | apply below_alloc | apply pw_below_drewN | apply below_drew1) | exact HB.out)⟩⟩
                          · rw [if_neg c26] at H
                            have c26b0 : decide ((rd y256 x29_1) < 1199) = false := decide_eq_false c26
                            clear c26
                            by_cases c36 : t261 ≤ 31
                            · rw [if_pos c36] at H
                              have c36b0 : decide (t261 ≤ 31) = true := decide_eq_true c36
                              clear c36
                              have H' := Aside0.mk H
                              clear H
                              go_wp2_with (first | ((with_reducible refine gate_callee (f := 21) rfl ?_); refine goesL_ (some 40) rfl rfl Tryd.func21 (by kernel_rfl) rfl #[.int .i64 (rd y256 x29_1)] rfl (by (try simp only [List.map_toArray, List.map_cons, List.map_nil]); first | done | rfl | (simp only [List.length_drop, List.length_take]; rfl)) ?_; (with_reducible refine (calendar_First.calls (rd y256 x29_1) t260 _ A19.out (TabBefore.below hTBefore.out (by repeat (first | exact HB.out | exact Below.refl _ _ | apply below_alloc | apply pw_below_drewN | apply below_drew1 | apply below_drew)))).mono ?_); rintro e w37 ⟨rfl, hb⟩; refine ⟨_, rfl, ?_⟩; have n0_ := Aside0.mk (Kd.R_below (by (with_reducible repeat (first | apply Kd.R_alloc | apply Kd.R_drewN | apply Kd.R_drew)); exact HO_27.out) hb); have n1_ := Aside0.mk (below_step (by repeat (first | (with_reducible first | exact HB.out | apply below_alloc | apply pw_below_drewN | apply below_drew1) | exact HB.out)) hb); clear HO_27; clear HB; have HO_27 := n0_; have HB := n1_; clear n0_ n1_; (try clear hb); (try clear hb2); (try clear hk); (try clear hi)) | ((with_reducible refine gate_callee (f := 23) rfl ?_); refine goesL_ (some 42) rfl rfl Tryd.func23 (by kernel_rfl) rfl #[.int .i64 (rd y256 x29_1)] rfl (by (try simp only [List.map_toArray, List.map_cons, List.map_nil]); first | done | rfl | (simp only [List.length_drop, List.length_take]; rfl)) ?_; (with_reducible refine (calendar_Length.calls (rd y256 x29_1) t261 _ A20.out (TabBefore.below hTBefore.out (by repeat (first | exact HB.out | exact Below.refl _ _ | apply below_alloc | apply pw_below_drewN | apply below_drew1 | apply below_drew)))).mono ?_); rintro e w38 ⟨rfl, hb⟩; refine ⟨_, rfl, ?_⟩; have n0_ := Aside0.mk (Kd.R_below (by (with_reducible repeat (first | apply Kd.R_alloc | apply Kd.R_drewN | apply Kd.R_drew)); exact HO_27.out) hb); have n1_ := Aside0.mk (below_step (by repeat (first | (with_reducible first | exact HB.out | apply below_alloc | apply pw_below_drewN | apply below_drew1) | exact HB.out)) hb); clear HO_27; clear HB; have HO_27 := n0_; have HB := n1_; clear n0_ n1_; (try clear hb); (try clear hb2); (try clear hk); (try clear hi)) | (go_at_call 17; (with_reducible refine (calendar_Month.calls t252 t253 _ A22.out (TabBefore.below hTBefore.out (by repeat (first | exact HB.out | exact Below.refl _ _ | apply below_alloc | apply pw_below_drewN | apply below_drew1 | apply below_drew)))).mono ?_); rintro e w39 ⟨rfl, hb⟩; have n0_ := Aside0.mk (Kd.R_below (by (with_reducible repeat (first | apply Kd.R_alloc | apply Kd.R_drewN | apply Kd.R_drew)); exact HO_27.out) hb); have n1_ := Aside0.mk (below_step (by repeat (first | (with_reducible first | exact HB.out | apply below_alloc | apply pw_below_drewN | apply below_drew1) | exact HB.out)) hb); clear HO_27; clear HB; have HO_27 := n0_; have HB := n1_; clear n0_ n1_; (try clear hb); (try clear hb2); (try clear hk); (try clear hi)))
                              go_roundg kj15
                              case measure => have := HK1.out; have := HJ15.out; omega
                              case rel => exact ⟨(((wrap64 (t260 + t261)) == 36525)), (wrap64 (x29_1 + 1)), (by first | rfl | (simp; done) | (simp [*]; done)), (by first | rfl | (simp; done) | (simp [*]; done)), H', ⟨by have := HK1.out; have := HJ15.out; omega⟩, ⟨by (with_reducible repeat (first | apply Kd.R_alloc | apply Kd.R_drewN | apply Kd.R_drew)); exact HO_27.out⟩, ⟨by repeat (first | (with_reducible first | exact HB.out | apply below_alloc | apply pw_below_drewN | apply below_drew1) | exact HB.out)⟩⟩
                            · rw [if_neg c36] at H
                              have c36b0 : decide (t261 ≤ 31) = false := decide_eq_false c36
                              clear c36
                              have H' := Aside0.mk H
                              clear H
                              go_wp2_with (first | ((with_reducible refine gate_callee (f := 21) rfl ?_); refine goesL_ (some 40) rfl rfl Tryd.func21 (by kernel_rfl) rfl #[.int .i64 (rd y256 x29_1)] rfl (by (try simp only [List.map_toArray, List.map_cons, List.map_nil]); first | done | rfl | (simp only [List.length_drop, List.length_take]; rfl)) ?_; (with_reducible refine (calendar_First.calls (rd y256 x29_1) t260 _ A19.out (TabBefore.below hTBefore.out (by repeat (first | exact HB.out | exact Below.refl _ _ | apply below_alloc | apply pw_below_drewN | apply below_drew1 | apply below_drew)))).mono ?_); rintro e w40 ⟨rfl, hb⟩; refine ⟨_, rfl, ?_⟩; have n0_ := Aside0.mk (Kd.R_below (by (with_reducible repeat (first | apply Kd.R_alloc | apply Kd.R_drewN | apply Kd.R_drew)); exact HO_27.out) hb); have n1_ := Aside0.mk (below_step (by repeat (first | (with_reducible first | exact HB.out | apply below_alloc | apply pw_below_drewN | apply below_drew1) | exact HB.out)) hb); clear HO_27; clear HB; have HO_27 := n0_; have HB := n1_; clear n0_ n1_; (try clear hb); (try clear hb2); (try clear hk); (try clear hi)) | ((with_reducible refine gate_callee (f := 23) rfl ?_); refine goesL_ (some 42) rfl rfl Tryd.func23 (by kernel_rfl) rfl #[.int .i64 (rd y256 x29_1)] rfl (by (try simp only [List.map_toArray, List.map_cons, List.map_nil]); first | done | rfl | (simp only [List.length_drop, List.length_take]; rfl)) ?_; (with_reducible refine (calendar_Length.calls (rd y256 x29_1) t261 _ A20.out (TabBefore.below hTBefore.out (by repeat (first | exact HB.out | exact Below.refl _ _ | apply below_alloc | apply pw_below_drewN | apply below_drew1 | apply below_drew)))).mono ?_); rintro e w41 ⟨rfl, hb⟩; refine ⟨_, rfl, ?_⟩; have n0_ := Aside0.mk (Kd.R_below (by (with_reducible repeat (first | apply Kd.R_alloc | apply Kd.R_drewN | apply Kd.R_drew)); exact HO_27.out) hb); have n1_ := Aside0.mk (below_step (by repeat (first | (with_reducible first | exact HB.out | apply below_alloc | apply pw_below_drewN | apply below_drew1) | exact HB.out)) hb); clear HO_27; clear HB; have HO_27 := n0_; have HB := n1_; clear n0_ n1_; (try clear hb); (try clear hb2); (try clear hk); (try clear hi)) | (go_at_call 17; (with_reducible refine (calendar_Month.calls t252 t253 _ A22.out (TabBefore.below hTBefore.out (by repeat (first | exact HB.out | exact Below.refl _ _ | apply below_alloc | apply pw_below_drewN | apply below_drew1 | apply below_drew)))).mono ?_); rintro e w42 ⟨rfl, hb⟩; have n0_ := Aside0.mk (Kd.R_below (by (with_reducible repeat (first | apply Kd.R_alloc | apply Kd.R_drewN | apply Kd.R_drew)); exact HO_27.out) hb); have n1_ := Aside0.mk (below_step (by repeat (first | (with_reducible first | exact HB.out | apply below_alloc | apply pw_below_drewN | apply below_drew1) | exact HB.out)) hb); clear HO_27; clear HB; have HO_27 := n0_; have HB := n1_; clear n0_ n1_; (try clear hb); (try clear hb2); (try clear hk); (try clear hi)))
                              go_roundg kj15
                              case measure => have := HK1.out; have := HJ15.out; omega
                              case rel => exact ⟨(false), (wrap64 (x29_1 + 1)), (by first | rfl | (simp; done) | (simp [*]; done)), (by first | rfl | (simp; done) | (simp [*]; done)), H', ⟨by have := HK1.out; have := HJ15.out; omega⟩, ⟨by (with_reducible repeat (first | apply Kd.R_alloc | apply Kd.R_drewN | apply Kd.R_drew)); exact HO_27.out⟩, ⟨by repeat (first | (with_reducible first | exact HB.out | apply below_alloc | apply pw_below_drewN | apply below_drew1) | exact HB.out)⟩⟩
                        · rw [if_neg c25] at H
                          have c25b0 : decide (28 ≤ t261) = false := decide_eq_false c25
                          clear c25
                          by_cases c43 : (rd y256 x29_1) < 1199
                          · rw [if_pos c43] at H
                            have c43b0 : decide ((rd y256 x29_1) < 1199) = true := decide_eq_true c43
                            clear c43
                            have H' := Aside0.mk H
                            clear H
                            go_wp2_with (first | ((with_reducible refine gate_callee (f := 21) rfl ?_); refine goesL_ (some 40) rfl rfl Tryd.func21 (by kernel_rfl) rfl #[.int .i64 (rd y256 x29_1)] rfl (by (try simp only [List.map_toArray, List.map_cons, List.map_nil]); first | done | rfl | (simp only [List.length_drop, List.length_take]; rfl)) ?_; (with_reducible refine (calendar_First.calls (rd y256 x29_1) t260 _ A19.out (TabBefore.below hTBefore.out (by repeat (first | exact HB.out | exact Below.refl _ _ | apply below_alloc | apply pw_below_drewN | apply below_drew1 | apply below_drew)))).mono ?_); rintro e w44 ⟨rfl, hb⟩; refine ⟨_, rfl, ?_⟩; have n0_ := Aside0.mk (Kd.R_below (by (with_reducible repeat (first | apply Kd.R_alloc | apply Kd.R_drewN | apply Kd.R_drew)); exact HO_27.out) hb); have n1_ := Aside0.mk (below_step (by repeat (first | (with_reducible first | exact HB.out | apply below_alloc | apply pw_below_drewN | apply below_drew1) | exact HB.out)) hb); clear HO_27; clear HB; have HO_27 := n0_; have HB := n1_; clear n0_ n1_; (try clear hb); (try clear hb2); (try clear hk); (try clear hi)) | ((with_reducible refine gate_callee (f := 23) rfl ?_); refine goesL_ (some 42) rfl rfl Tryd.func23 (by kernel_rfl) rfl #[.int .i64 (rd y256 x29_1)] rfl (by (try simp only [List.map_toArray, List.map_cons, List.map_nil]); first | done | rfl | (simp only [List.length_drop, List.length_take]; rfl)) ?_; (with_reducible refine (calendar_Length.calls (rd y256 x29_1) t261 _ A20.out (TabBefore.below hTBefore.out (by repeat (first | exact HB.out | exact Below.refl _ _ | apply below_alloc | apply pw_below_drewN | apply below_drew1 | apply below_drew)))).mono ?_); rintro e w45 ⟨rfl, hb⟩; refine ⟨_, rfl, ?_⟩; have n0_ := Aside0.mk (Kd.R_below (by (with_reducible repeat (first | apply Kd.R_alloc | apply Kd.R_drewN | apply Kd.R_drew)); exact HO_27.out) hb); have n1_ := Aside0.mk (below_step (by repeat (first | (with_reducible first | exact HB.out | apply below_alloc | apply pw_below_drewN | apply below_drew1) | exact HB.out)) hb); clear HO_27; clear HB; have HO_27 := n0_; have HB := n1_; clear n0_ n1_; (try clear hb); (try clear hb2); (try clear hk); (try clear hi)) | (go_at_call 17; (with_reducible refine (calendar_Month.calls t252 t253 _ A22.out (TabBefore.below hTBefore.out (by repeat (first | exact HB.out | exact Below.refl _ _ | apply below_alloc | apply pw_below_drewN | apply below_drew1 | apply below_drew)))).mono ?_); rintro e w46 ⟨rfl, hb⟩; have n0_ := Aside0.mk (Kd.R_below (by (with_reducible repeat (first | apply Kd.R_alloc | apply Kd.R_drewN | apply Kd.R_drew)); exact HO_27.out) hb); have n1_ := Aside0.mk (below_step (by repeat (first | (with_reducible first | exact HB.out | apply below_alloc | apply pw_below_drewN | apply below_drew1) | exact HB.out)) hb); clear HO_27; clear HB; have HO_27 := n0_; have HB := n1_; clear n0_ n1_; (try clear hb); (try clear hb2); (try clear hk); (try clear hi)))
                            go_roundg kj15
                            case measure => have := HK1.out; have := HJ15.out; omega
                            case rel => exact ⟨(false), (wrap64 (x29_1 + 1)), (by first | rfl | (simp; done) | (simp [*]; done)), (by first | rfl | (simp; done) | (simp [*]; done)), H', ⟨by have := HK1.out; have := HJ15.out; omega⟩, ⟨by (with_reducible repeat (first | apply Kd.R_alloc | apply Kd.R_drewN | apply Kd.R_drew)); exact HO_27.out⟩, ⟨by repeat (first | (with_reducible first | exact HB.out | apply below_alloc | apply pw_below_drewN | apply below_drew1) | exact HB.out)⟩⟩
                          · rw [if_neg c43] at H
                            have c43b0 : decide ((rd y256 x29_1) < 1199) = false := decide_eq_false c43
                            clear c43
                            have H' := Aside0.mk H
                            clear H
                            go_wp2_with (first | ((with_reducible refine gate_callee (f := 21) rfl ?_); refine goesL_ (some 40) rfl rfl Tryd.func21 (by kernel_rfl) rfl #[.int .i64 (rd y256 x29_1)] rfl (by (try simp only [List.map_toArray, List.map_cons, List.map_nil]); first | done | rfl | (simp only [List.length_drop, List.length_take]; rfl)) ?_; (with_reducible refine (calendar_First.calls (rd y256 x29_1) t260 _ A19.out (TabBefore.below hTBefore.out (by repeat (first | exact HB.out | exact Below.refl _ _ | apply below_alloc | apply pw_below_drewN | apply below_drew1 | apply below_drew)))).mono ?_); rintro e w47 ⟨rfl, hb⟩; refine ⟨_, rfl, ?_⟩; have n0_ := Aside0.mk (Kd.R_below (by (with_reducible repeat (first | apply Kd.R_alloc | apply Kd.R_drewN | apply Kd.R_drew)); exact HO_27.out) hb); have n1_ := Aside0.mk (below_step (by repeat (first | (with_reducible first | exact HB.out | apply below_alloc | apply pw_below_drewN | apply below_drew1) | exact HB.out)) hb); clear HO_27; clear HB; have HO_27 := n0_; have HB := n1_; clear n0_ n1_; (try clear hb); (try clear hb2); (try clear hk); (try clear hi)) | ((with_reducible refine gate_callee (f := 23) rfl ?_); refine goesL_ (some 42) rfl rfl Tryd.func23 (by kernel_rfl) rfl #[.int .i64 (rd y256 x29_1)] rfl (by (try simp only [List.map_toArray, List.map_cons, List.map_nil]); first | done | rfl | (simp only [List.length_drop, List.length_take]; rfl)) ?_; (with_reducible refine (calendar_Length.calls (rd y256 x29_1) t261 _ A20.out (TabBefore.below hTBefore.out (by repeat (first | exact HB.out | exact Below.refl _ _ | apply below_alloc | apply pw_below_drewN | apply below_drew1 | apply below_drew)))).mono ?_); rintro e w48 ⟨rfl, hb⟩; refine ⟨_, rfl, ?_⟩; have n0_ := Aside0.mk (Kd.R_below (by (with_reducible repeat (first | apply Kd.R_alloc | apply Kd.R_drewN | apply Kd.R_drew)); exact HO_27.out) hb); have n1_ := Aside0.mk (below_step (by repeat (first | (with_reducible first | exact HB.out | apply below_alloc | apply pw_below_drewN | apply below_drew1) | exact HB.out)) hb); clear HO_27; clear HB; have HO_27 := n0_; have HB := n1_; clear n0_ n1_; (try clear hb); (try clear hb2); (try clear hk); (try clear hi)) | (go_at_call 17; (with_reducible refine (calendar_Month.calls t252 t253 _ A22.out (TabBefore.below hTBefore.out (by repeat (first | exact HB.out | exact Below.refl _ _ | apply below_alloc | apply pw_below_drewN | apply below_drew1 | apply below_drew)))).mono ?_); rintro e w49 ⟨rfl, hb⟩; have n0_ := Aside0.mk (Kd.R_below (by (with_reducible repeat (first | apply Kd.R_alloc | apply Kd.R_drewN | apply Kd.R_drew)); exact HO_27.out) hb); have n1_ := Aside0.mk (below_step (by repeat (first | (with_reducible first | exact HB.out | apply below_alloc | apply pw_below_drewN | apply below_drew1) | exact HB.out)) hb); clear HO_27; clear HB; have HO_27 := n0_; have HB := n1_; clear n0_ n1_; (try clear hb); (try clear hb2); (try clear hk); (try clear hi)))
                            go_roundg kj15
                            case measure => have := HK1.out; have := HJ15.out; omega
                            case rel => exact ⟨(false), (wrap64 (x29_1 + 1)), (by first | rfl | (simp; done) | (simp [*]; done)), (by first | rfl | (simp; done) | (simp [*]; done)), H', ⟨by have := HK1.out; have := HJ15.out; omega⟩, ⟨by (with_reducible repeat (first | apply Kd.R_alloc | apply Kd.R_drewN | apply Kd.R_drew)); exact HO_27.out⟩, ⟨by repeat (first | (with_reducible first | exact HB.out | apply below_alloc | apply pw_below_drewN | apply below_drew1) | exact HB.out)⟩⟩
                      · rw [if_neg c24] at H
                        have c24b0 : ((t253 == (rd y256 x29_1)) == (decide (t252 < (wrap64 (t260 + t261))))) = false := by simpa using c24
                        (try (have c24b1 : decide ((t253 == (rd y256 x29_1)) = (decide (t252 < (wrap64 (t260 + t261))))) = false := by simpa using c24))
                        (try (have c24b2 : ((t253 == (rd y256 x29_1)) == (decide (t252 < (wrap64 (t260 + t261))))) = false := by simpa using c24))
                        (try (have c24b3 : ¬ ((t253 == (rd y256 x29_1)) = (decide (t252 < (wrap64 (t260 + t261))))) := by simpa using c24))
                        clear c24
                        by_cases c50 : (rd y256 x29_1) < 1199
                        · rw [if_pos c50] at H
                          have c50b0 : decide ((rd y256 x29_1) < 1199) = true := decide_eq_true c50
                          clear c50
                          have H' := Aside0.mk H
                          clear H
                          go_wp2_with (first | ((with_reducible refine gate_callee (f := 21) rfl ?_); refine goesL_ (some 40) rfl rfl Tryd.func21 (by kernel_rfl) rfl #[.int .i64 (rd y256 x29_1)] rfl (by (try simp only [List.map_toArray, List.map_cons, List.map_nil]); first | done | rfl | (simp only [List.length_drop, List.length_take]; rfl)) ?_; (with_reducible refine (calendar_First.calls (rd y256 x29_1) t260 _ A19.out (TabBefore.below hTBefore.out (by repeat (first | exact HB.out | exact Below.refl _ _ | apply below_alloc | apply pw_below_drewN | apply below_drew1 | apply below_drew)))).mono ?_); rintro e w51 ⟨rfl, hb⟩; refine ⟨_, rfl, ?_⟩; have n0_ := Aside0.mk (Kd.R_below (by (with_reducible repeat (first | apply Kd.R_alloc | apply Kd.R_drewN | apply Kd.R_drew)); exact HO_27.out) hb); have n1_ := Aside0.mk (below_step (by repeat (first | (with_reducible first | exact HB.out | apply below_alloc | apply pw_below_drewN | apply below_drew1) | exact HB.out)) hb); clear HO_27; clear HB; have HO_27 := n0_; have HB := n1_; clear n0_ n1_; (try clear hb); (try clear hb2); (try clear hk); (try clear hi)) | ((with_reducible refine gate_callee (f := 23) rfl ?_); refine goesL_ (some 42) rfl rfl Tryd.func23 (by kernel_rfl) rfl #[.int .i64 (rd y256 x29_1)] rfl (by (try simp only [List.map_toArray, List.map_cons, List.map_nil]); first | done | rfl | (simp only [List.length_drop, List.length_take]; rfl)) ?_; (with_reducible refine (calendar_Length.calls (rd y256 x29_1) t261 _ A20.out (TabBefore.below hTBefore.out (by repeat (first | exact HB.out | exact Below.refl _ _ | apply below_alloc | apply pw_below_drewN | apply below_drew1 | apply below_drew)))).mono ?_); rintro e w52 ⟨rfl, hb⟩; refine ⟨_, rfl, ?_⟩; have n0_ := Aside0.mk (Kd.R_below (by (with_reducible repeat (first | apply Kd.R_alloc | apply Kd.R_drewN | apply Kd.R_drew)); exact HO_27.out) hb); have n1_ := Aside0.mk (below_step (by repeat (first | (with_reducible first | exact HB.out | apply below_alloc | apply pw_below_drewN | apply below_drew1) | exact HB.out)) hb); clear HO_27; clear HB; have HO_27 := n0_; have HB := n1_; clear n0_ n1_; (try clear hb); (try clear hb2); (try clear hk); (try clear hi)) | (go_at_call 17; (with_reducible refine (calendar_Month.calls t252 t253 _ A22.out (TabBefore.below hTBefore.out (by repeat (first | exact HB.out | exact Below.refl _ _ | apply below_alloc | apply pw_below_drewN | apply below_drew1 | apply below_drew)))).mono ?_); rintro e w53 ⟨rfl, hb⟩; have n0_ := Aside0.mk (Kd.R_below (by (with_reducible repeat (first | apply Kd.R_alloc | apply Kd.R_drewN | apply Kd.R_drew)); exact HO_27.out) hb); have n1_ := Aside0.mk (below_step (by repeat (first | (with_reducible first | exact HB.out | apply below_alloc | apply pw_below_drewN | apply below_drew1) | exact HB.out)) hb); clear HO_27; clear HB; have HO_27 := n0_; have HB := n1_; clear n0_ n1_; (try clear hb); (try clear hb2); (try clear hk); (try clear hi)))
                          go_roundg kj15
                          case measure => have := HK1.out; have := HJ15.out; omega
                          case rel => exact ⟨(false), (wrap64 (x29_1 + 1)), (by first | rfl | (simp; done) | (simp [*]; done)), (by first | rfl | (simp; done) | (simp [*]; done)), H', ⟨by have := HK1.out; have := HJ15.out; omega⟩, ⟨by (with_reducible repeat (first | apply Kd.R_alloc | apply Kd.R_drewN | apply Kd.R_drew)); exact HO_27.out⟩, ⟨by repeat (first | (with_reducible first | exact HB.out | apply below_alloc | apply pw_below_drewN | apply below_drew1) | exact HB.out)⟩⟩
                        · rw [if_neg c50] at H
                          have c50b0 : decide ((rd y256 x29_1) < 1199) = false := decide_eq_false c50
                          clear c50
                          have H' := Aside0.mk H
                          clear H
                          go_wp2_with (first | ((with_reducible refine gate_callee (f := 21) rfl ?_); refine goesL_ (some 40) rfl rfl Tryd.func21 (by kernel_rfl) rfl #[.int .i64 (rd y256 x29_1)] rfl (by (try simp only [List.map_toArray, List.map_cons, List.map_nil]); first | done | rfl | (simp only [List.length_drop, List.length_take]; rfl)) ?_; (with_reducible refine (calendar_First.calls (rd y256 x29_1) t260 _ A19.out (TabBefore.below hTBefore.out (by repeat (first | exact HB.out | exact Below.refl _ _ | apply below_alloc | apply pw_below_drewN | apply below_drew1 | apply below_drew)))).mono ?_); rintro e w54 ⟨rfl, hb⟩; refine ⟨_, rfl, ?_⟩; have n0_ := Aside0.mk (Kd.R_below (by (with_reducible repeat (first | apply Kd.R_alloc | apply Kd.R_drewN | apply Kd.R_drew)); exact HO_27.out) hb); have n1_ := Aside0.mk (below_step (by repeat (first | (with_reducible first | exact HB.out | apply below_alloc | apply pw_below_drewN | apply below_drew1) | exact HB.out)) hb); clear HO_27; clear HB; have HO_27 := n0_; have HB := n1_; clear n0_ n1_; (try clear hb); (try clear hb2); (try clear hk); (try clear hi)) | ((with_reducible refine gate_callee (f := 23) rfl ?_); refine goesL_ (some 42) rfl rfl Tryd.func23 (by kernel_rfl) rfl #[.int .i64 (rd y256 x29_1)] rfl (by (try simp only [List.map_toArray, List.map_cons, List.map_nil]); first | done | rfl | (simp only [List.length_drop, List.length_take]; rfl)) ?_; (with_reducible refine (calendar_Length.calls (rd y256 x29_1) t261 _ A20.out (TabBefore.below hTBefore.out (by repeat (first | exact HB.out | exact Below.refl _ _ | apply below_alloc | apply pw_below_drewN | apply below_drew1 | apply below_drew)))).mono ?_); rintro e w55 ⟨rfl, hb⟩; refine ⟨_, rfl, ?_⟩; have n0_ := Aside0.mk (Kd.R_below (by (with_reducible repeat (first | apply Kd.R_alloc | apply Kd.R_drewN | apply Kd.R_drew)); exact HO_27.out) hb); have n1_ := Aside0.mk (below_step (by repeat (first | (with_reducible first | exact HB.out | apply below_alloc | apply pw_below_drewN | apply below_drew1) | exact HB.out)) hb); clear HO_27; clear HB; have HO_27 := n0_; have HB := n1_; clear n0_ n1_; (try clear hb); (try clear hb2); (try clear hk); (try clear hi)) | (go_at_call 17; (with_reducible refine (calendar_Month.calls t252 t253 _ A22.out (TabBefore.below hTBefore.out (by repeat (first | exact HB.out | exact Below.refl _ _ | apply below_alloc | apply pw_below_drewN | apply below_drew1 | apply below_drew)))).mono ?_); rintro e w56 ⟨rfl, hb⟩; have n0_ := Aside0.mk (Kd.R_below (by (with_reducible repeat (first | apply Kd.R_alloc | apply Kd.R_drewN | apply Kd.R_drew)); exact HO_27.out) hb); have n1_ := Aside0.mk (below_step (by repeat (first | (with_reducible first | exact HB.out | apply below_alloc | apply pw_below_drewN | apply below_drew1) | exact HB.out)) hb); clear HO_27; clear HB; have HO_27 := n0_; have HB := n1_; clear n0_ n1_; (try clear hb); (try clear hb2); (try clear hk); (try clear hi)))
                          go_roundg kj15
                          case measure => have := HK1.out; have := HJ15.out; omega
                          case rel => exact ⟨(false), (wrap64 (x29_1 + 1)), (by first | rfl | (simp; done) | (simp [*]; done)), (by first | rfl | (simp; done) | (simp [*]; done)), H', ⟨by have := HK1.out; have := HJ15.out; omega⟩, ⟨by (with_reducible repeat (first | apply Kd.R_alloc | apply Kd.R_drewN | apply Kd.R_drew)); exact HO_27.out⟩, ⟨by repeat (first | (with_reducible first | exact HB.out | apply below_alloc | apply pw_below_drewN | apply below_drew1) | exact HB.out)⟩⟩
                    · rw [if_neg c23] at H
                      have c23b0 : decide (t260 ≤ t252) = false := decide_eq_false c23
                      clear c23
                      by_cases c57 : ((t253 == (rd y256 x29_1)) == false) = true
                      · rw [if_pos c57] at H
                        have c57b0 : ((t253 == (rd y256 x29_1)) == false) = true := c57
                        (try (have c57b1 : decide ((t253 == (rd y256 x29_1)) = false) = true := by simpa using c57))
                        (try (have c57b2 : ((t253 == (rd y256 x29_1)) == false) = true := by simpa using c57))
                        clear c57
                        by_cases c58 : t261 ≥ 28
                        · rw [if_pos c58] at H
                          have c58b0 : decide (28 ≤ t261) = true := decide_eq_true c58
                          clear c58
                          by_cases c59 : (rd y256 x29_1) < 1199
                          · rw [if_pos c59] at H
                            have c59b0 : decide ((rd y256 x29_1) < 1199) = true := decide_eq_true c59
                            clear c59
                            by_cases c60 : t261 ≤ 31
                            · rw [if_pos c60] at H
                              have c60b0 : decide (t261 ≤ 31) = true := decide_eq_true c60
                              clear c60
                              replace H := Option.bind_eq_some_iff.mp H
                              obtain ⟨t264, A610, H⟩ := H
                              replace H : (wageofficelaw02_CalendarMonths.l0 kj15 a1 (t264 == (wrap64 (t260 + t261))) t252 y256 (y256.length : Int) (wrap64 (x29_1 + 1))) = some r := H
                              have A61 := Aside0.mk A610
                              clear A610
                              have H' := Aside0.mk H
                              clear H
                              go_wp2_with (first | ((with_reducible refine gate_callee (f := 21) rfl ?_); refine goesL_ (some 40) rfl rfl Tryd.func21 (by kernel_rfl) rfl #[.int .i64 (rd y256 x29_1)] rfl (by (try simp only [List.map_toArray, List.map_cons, List.map_nil]); first | done | rfl | (simp only [List.length_drop, List.length_take]; rfl)) ?_; (with_reducible refine (calendar_First.calls (rd y256 x29_1) t260 _ A19.out (TabBefore.below hTBefore.out (by repeat (first | exact HB.out | exact Below.refl _ _ | apply below_alloc | apply pw_below_drewN | apply below_drew1 | apply below_drew)))).mono ?_); rintro e w62 ⟨rfl, hb⟩; refine ⟨_, rfl, ?_⟩; have n0_ := Aside0.mk (Kd.R_below (by (with_reducible repeat (first | apply Kd.R_alloc | apply Kd.R_drewN | apply Kd.R_drew)); exact HO_27.out) hb); have n1_ := Aside0.mk (below_step (by repeat (first | (with_reducible first | exact HB.out | apply below_alloc | apply pw_below_drewN | apply below_drew1) | exact HB.out)) hb); clear HO_27; clear HB; have HO_27 := n0_; have HB := n1_; clear n0_ n1_; (try clear hb); (try clear hb2); (try clear hk); (try clear hi)) | ((with_reducible refine gate_callee (f := 23) rfl ?_); refine goesL_ (some 42) rfl rfl Tryd.func23 (by kernel_rfl) rfl #[.int .i64 (rd y256 x29_1)] rfl (by (try simp only [List.map_toArray, List.map_cons, List.map_nil]); first | done | rfl | (simp only [List.length_drop, List.length_take]; rfl)) ?_; (with_reducible refine (calendar_Length.calls (rd y256 x29_1) t261 _ A20.out (TabBefore.below hTBefore.out (by repeat (first | exact HB.out | exact Below.refl _ _ | apply below_alloc | apply pw_below_drewN | apply below_drew1 | apply below_drew)))).mono ?_); rintro e w63 ⟨rfl, hb⟩; refine ⟨_, rfl, ?_⟩; have n0_ := Aside0.mk (Kd.R_below (by (with_reducible repeat (first | apply Kd.R_alloc | apply Kd.R_drewN | apply Kd.R_drew)); exact HO_27.out) hb); have n1_ := Aside0.mk (below_step (by repeat (first | (with_reducible first | exact HB.out | apply below_alloc | apply pw_below_drewN | apply below_drew1) | exact HB.out)) hb); clear HO_27; clear HB; have HO_27 := n0_; have HB := n1_; clear n0_ n1_; (try clear hb); (try clear hb2); (try clear hk); (try clear hi)) | (go_at_call 17; (with_reducible refine (calendar_Month.calls t252 t253 _ A22.out (TabBefore.below hTBefore.out (by repeat (first | exact HB.out | exact Below.refl _ _ | apply below_alloc | apply pw_below_drewN | apply below_drew1 | apply below_drew)))).mono ?_); rintro e w64 ⟨rfl, hb⟩; have n0_ := Aside0.mk (Kd.R_below (by (with_reducible repeat (first | apply Kd.R_alloc | apply Kd.R_drewN | apply Kd.R_drew)); exact HO_27.out) hb); have n1_ := Aside0.mk (below_step (by repeat (first | (with_reducible first | exact HB.out | apply below_alloc | apply pw_below_drewN | apply below_drew1) | exact HB.out)) hb); clear HO_27; clear HB; have HO_27 := n0_; have HB := n1_; clear n0_ n1_; (try clear hb); (try clear hb2); (try clear hk); (try clear hi)) | (go_at_call 21; (with_reducible refine (calendar_First.calls (wrap64 ((rd y256 x29_1) + 1)) t264 _ A61.out (TabBefore.below hTBefore.out (by repeat (first | exact HB.out | exact Below.refl _ _ | apply below_alloc | apply pw_below_drewN | apply below_drew1 | apply below_drew)))).mono ?_); rintro e w65 ⟨rfl, hb⟩; have n0_ := Aside0.mk (Kd.R_below (by (with_reducible repeat (first | apply Kd.R_alloc | apply Kd.R_drewN | apply Kd.R_drew)); exact HO_27.out) hb); have n1_ := Aside0.mk (below_step (by repeat (first | (with_reducible first | exact HB.out | apply below_alloc | apply pw_below_drewN | apply below_drew1) | exact HB.out)) hb); clear HO_27; clear HB; have HO_27 := n0_; have HB := n1_; clear n0_ n1_; (try clear hb); (try clear hb2); (try clear hk); (try clear hi)))
                              go_roundg kj15
                              case measure => have := HK1.out; have := HJ15.out; omega
                              case rel => exact ⟨((t264 == (wrap64 (t260 + t261)))), (wrap64 (x29_1 + 1)), (by first | rfl | (simp; done) | (simp [*]; done)), (by first | rfl | (simp; done) | (simp [*]; done)), H', ⟨by have := HK1.out; have := HJ15.out; omega⟩, ⟨by (with_reducible repeat (first | apply Kd.R_alloc | apply Kd.R_drewN | apply Kd.R_drew)); exact HO_27.out⟩, ⟨by repeat (first | (with_reducible first | exact HB.out | apply below_alloc | apply pw_below_drewN | apply below_drew1) | exact HB.out)⟩⟩
                            · rw [if_neg c60] at H
                              have c60b0 : decide (t261 ≤ 31) = false := decide_eq_false c60
                              clear c60
                              have H' := Aside0.mk H
                              clear H
                              go_wp2_with (first | ((with_reducible refine gate_callee (f := 21) rfl ?_); refine goesL_ (some 40) rfl rfl Tryd.func21 (by kernel_rfl) rfl #[.int .i64 (rd y256 x29_1)] rfl (by (try simp only [List.map_toArray, List.map_cons, List.map_nil]); first | done | rfl | (simp only [List.length_drop, List.length_take]; rfl)) ?_; (with_reducible refine (calendar_First.calls (rd y256 x29_1) t260 _ A19.out (TabBefore.below hTBefore.out (by repeat (first | exact HB.out | exact Below.refl _ _ | apply below_alloc | apply pw_below_drewN | apply below_drew1 | apply below_drew)))).mono ?_); rintro e w66 ⟨rfl, hb⟩; refine ⟨_, rfl, ?_⟩; have n0_ := Aside0.mk (Kd.R_below (by (with_reducible repeat (first | apply Kd.R_alloc | apply Kd.R_drewN | apply Kd.R_drew)); exact HO_27.out) hb); have n1_ := Aside0.mk (below_step (by repeat (first | (with_reducible first | exact HB.out | apply below_alloc | apply pw_below_drewN | apply below_drew1) | exact HB.out)) hb); clear HO_27; clear HB; have HO_27 := n0_; have HB := n1_; clear n0_ n1_; (try clear hb); (try clear hb2); (try clear hk); (try clear hi)) | ((with_reducible refine gate_callee (f := 23) rfl ?_); refine goesL_ (some 42) rfl rfl Tryd.func23 (by kernel_rfl) rfl #[.int .i64 (rd y256 x29_1)] rfl (by (try simp only [List.map_toArray, List.map_cons, List.map_nil]); first | done | rfl | (simp only [List.length_drop, List.length_take]; rfl)) ?_; (with_reducible refine (calendar_Length.calls (rd y256 x29_1) t261 _ A20.out (TabBefore.below hTBefore.out (by repeat (first | exact HB.out | exact Below.refl _ _ | apply below_alloc | apply pw_below_drewN | apply below_drew1 | apply below_drew)))).mono ?_); rintro e w67 ⟨rfl, hb⟩; refine ⟨_, rfl, ?_⟩; have n0_ := Aside0.mk (Kd.R_below (by (with_reducible repeat (first | apply Kd.R_alloc | apply Kd.R_drewN | apply Kd.R_drew)); exact HO_27.out) hb); have n1_ := Aside0.mk (below_step (by repeat (first | (with_reducible first | exact HB.out | apply below_alloc | apply pw_below_drewN | apply below_drew1) | exact HB.out)) hb); clear HO_27; clear HB; have HO_27 := n0_; have HB := n1_; clear n0_ n1_; (try clear hb); (try clear hb2); (try clear hk); (try clear hi)) | (go_at_call 17; (with_reducible refine (calendar_Month.calls t252 t253 _ A22.out (TabBefore.below hTBefore.out (by repeat (first | exact HB.out | exact Below.refl _ _ | apply below_alloc | apply pw_below_drewN | apply below_drew1 | apply below_drew)))).mono ?_); rintro e w68 ⟨rfl, hb⟩; have n0_ := Aside0.mk (Kd.R_below (by (with_reducible repeat (first | apply Kd.R_alloc | apply Kd.R_drewN | apply Kd.R_drew)); exact HO_27.out) hb); have n1_ := Aside0.mk (below_step (by repeat (first | (with_reducible first | exact HB.out | apply below_alloc | apply pw_below_drewN | apply below_drew1) | exact HB.out)) hb); clear HO_27; clear HB; have HO_27 := n0_; have HB := n1_; clear n0_ n1_; (try clear hb); (try clear hb2); (try clear hk); (try clear hi)))
                              go_roundg kj15
                              case measure => have := HK1.out; have := HJ15.out; omega
                              case rel => exact ⟨(false), (wrap64 (x29_1 + 1)), (by first | rfl | (simp; done) | (simp [*]; done)), (by first | rfl | (simp; done) | (simp [*]; done)), H', ⟨by have := HK1.out; have := HJ15.out; omega⟩, ⟨by (with_reducible repeat (first | apply Kd.R_alloc | apply Kd.R_drewN | apply Kd.R_drew)); exact HO_27.out⟩, ⟨by repeat (first | (with_reducible first | exact HB.out | apply below_alloc | apply pw_below_drewN | apply below_drew1) | exact HB.out)⟩⟩
                          · rw [if_neg c59] at H
                            have c59b0 : decide ((rd y256 x29_1) < 1199) = false := decide_eq_false c59
                            clear c59
                            by_cases c69 : t261 ≤ 31
                            · rw [if_pos c69] at H
                              have c69b0 : decide (t261 ≤ 31) = true := decide_eq_true c69
                              clear c69
                              have H' := Aside0.mk H
                              clear H
                              go_wp2_with (first | ((with_reducible refine gate_callee (f := 21) rfl ?_); refine goesL_ (some 40) rfl rfl Tryd.func21 (by kernel_rfl) rfl #[.int .i64 (rd y256 x29_1)] rfl (by (try simp only [List.map_toArray, List.map_cons, List.map_nil]); first | done | rfl | (simp only [List.length_drop, List.length_take]; rfl)) ?_; (with_reducible refine (calendar_First.calls (rd y256 x29_1) t260 _ A19.out (TabBefore.below hTBefore.out (by repeat (first | exact HB.out | exact Below.refl _ _ | apply below_alloc | apply pw_below_drewN | apply below_drew1 | apply below_drew)))).mono ?_); rintro e w70 ⟨rfl, hb⟩; refine ⟨_, rfl, ?_⟩; have n0_ := Aside0.mk (Kd.R_below (by (with_reducible repeat (first | apply Kd.R_alloc | apply Kd.R_drewN | apply Kd.R_drew)); exact HO_27.out) hb); have n1_ := Aside0.mk (below_step (by repeat (first | (with_reducible first | exact HB.out | apply below_alloc | apply pw_below_drewN | apply below_drew1) | exact HB.out)) hb); clear HO_27; clear HB; have HO_27 := n0_; have HB := n1_; clear n0_ n1_; (try clear hb); (try clear hb2); (try clear hk); (try clear hi)) | ((with_reducible refine gate_callee (f := 23) rfl ?_); refine goesL_ (some 42) rfl rfl Tryd.func23 (by kernel_rfl) rfl #[.int .i64 (rd y256 x29_1)] rfl (by (try simp only [List.map_toArray, List.map_cons, List.map_nil]); first | done | rfl | (simp only [List.length_drop, List.length_take]; rfl)) ?_; (with_reducible refine (calendar_Length.calls (rd y256 x29_1) t261 _ A20.out (TabBefore.below hTBefore.out (by repeat (first | exact HB.out | exact Below.refl _ _ | apply below_alloc | apply pw_below_drewN | apply below_drew1 | apply below_drew)))).mono ?_); rintro e w71 ⟨rfl, hb⟩; refine ⟨_, rfl, ?_⟩; have n0_ := Aside0.mk (Kd.R_below (by (with_reducible repeat (first | apply Kd.R_alloc | apply Kd.R_drewN | apply Kd.R_drew)); exact HO_27.out) hb); have n1_ := Aside0.mk (below_step (by repeat (first | (with_reducible first | exact HB.out | apply below_alloc | apply pw_below_drewN | apply below_drew1) | exact HB.out)) hb); clear HO_27; clear HB; have HO_27 := n0_; have HB := n1_; clear n0_ n1_; (try clear hb); (try clear hb2); (try clear hk); (try clear hi)) | (go_at_call 17; (with_reducible refine (calendar_Month.calls t252 t253 _ A22.out (TabBefore.below hTBefore.out (by repeat (first | exact HB.out | exact Below.refl _ _ | apply below_alloc | apply pw_below_drewN | apply below_drew1 | apply below_drew)))).mono ?_); rintro e w72 ⟨rfl, hb⟩; have n0_ := Aside0.mk (Kd.R_below (by (with_reducible repeat (first | apply Kd.R_alloc | apply Kd.R_drewN | apply Kd.R_drew)); exact HO_27.out) hb); have n1_ := Aside0.mk (below_step (by repeat (first | (with_reducible first | exact HB.out | apply below_alloc | apply pw_below_drewN | apply below_drew1) | exact HB.out)) hb); clear HO_27; clear HB; have HO_27 := n0_; have HB := n1_; clear n0_ n1_; (try clear hb); (try clear hb2); (try clear hk); (try clear hi)))
                              go_roundg kj15
                              case measure => have := HK1.out; have := HJ15.out; omega
                              case rel => exact ⟨(((wrap64 (t260 + t261)) == 36525)), (wrap64 (x29_1 + 1)), (by first | rfl | (simp; done) | (simp [*]; done)), (by first | rfl | (simp; done) | (simp [*]; done)), H', ⟨by have := HK1.out; have := HJ15.out; omega⟩, ⟨by (with_reducible repeat (first | apply Kd.R_alloc | apply Kd.R_drewN | apply Kd.R_drew)); exact HO_27.out⟩, ⟨by repeat (first | (with_reducible first | exact HB.out | apply below_alloc | apply pw_below_drewN | apply below_drew1) | exact HB.out)⟩⟩
                            · rw [if_neg c69] at H
                              have c69b0 : decide (t261 ≤ 31) = false := decide_eq_false c69
                              clear c69
                              have H' := Aside0.mk H
                              clear H
                              go_wp2_with (first | ((with_reducible refine gate_callee (f := 21) rfl ?_); refine goesL_ (some 40) rfl rfl Tryd.func21 (by kernel_rfl) rfl #[.int .i64 (rd y256 x29_1)] rfl (by (try simp only [List.map_toArray, List.map_cons, List.map_nil]); first | done | rfl | (simp only [List.length_drop, List.length_take]; rfl)) ?_; (with_reducible refine (calendar_First.calls (rd y256 x29_1) t260 _ A19.out (TabBefore.below hTBefore.out (by repeat (first | exact HB.out | exact Below.refl _ _ | apply below_alloc | apply pw_below_drewN | apply below_drew1 | apply below_drew)))).mono ?_); rintro e w73 ⟨rfl, hb⟩; refine ⟨_, rfl, ?_⟩; have n0_ := Aside0.mk (Kd.R_below (by (with_reducible repeat (first | apply Kd.R_alloc | apply Kd.R_drewN | apply Kd.R_drew)); exact HO_27.out) hb); have n1_ := Aside0.mk (below_step (by repeat (first | (with_reducible first | exact HB.out | apply below_alloc | apply pw_below_drewN | apply below_drew1) | exact HB.out)) hb); clear HO_27; clear HB; have HO_27 := n0_; have HB := n1_; clear n0_ n1_; (try clear hb); (try clear hb2); (try clear hk); (try clear hi)) | ((with_reducible refine gate_callee (f := 23) rfl ?_); refine goesL_ (some 42) rfl rfl Tryd.func23 (by kernel_rfl) rfl #[.int .i64 (rd y256 x29_1)] rfl (by (try simp only [List.map_toArray, List.map_cons, List.map_nil]); first | done | rfl | (simp only [List.length_drop, List.length_take]; rfl)) ?_; (with_reducible refine (calendar_Length.calls (rd y256 x29_1) t261 _ A20.out (TabBefore.below hTBefore.out (by repeat (first | exact HB.out | exact Below.refl _ _ | apply below_alloc | apply pw_below_drewN | apply below_drew1 | apply below_drew)))).mono ?_); rintro e w74 ⟨rfl, hb⟩; refine ⟨_, rfl, ?_⟩; have n0_ := Aside0.mk (Kd.R_below (by (with_reducible repeat (first | apply Kd.R_alloc | apply Kd.R_drewN | apply Kd.R_drew)); exact HO_27.out) hb); have n1_ := Aside0.mk (below_step (by repeat (first | (with_reducible first | exact HB.out | apply below_alloc | apply pw_below_drewN | apply below_drew1) | exact HB.out)) hb); clear HO_27; clear HB; have HO_27 := n0_; have HB := n1_; clear n0_ n1_; (try clear hb); (try clear hb2); (try clear hk); (try clear hi)) | (go_at_call 17; (with_reducible refine (calendar_Month.calls t252 t253 _ A22.out (TabBefore.below hTBefore.out (by repeat (first | exact HB.out | exact Below.refl _ _ | apply below_alloc | apply pw_below_drewN | apply below_drew1 | apply below_drew)))).mono ?_); rintro e w75 ⟨rfl, hb⟩; have n0_ := Aside0.mk (Kd.R_below (by (with_reducible repeat (first | apply Kd.R_alloc | apply Kd.R_drewN | apply Kd.R_drew)); exact HO_27.out) hb); have n1_ := Aside0.mk (below_step (by repeat (first | (with_reducible first | exact HB.out | apply below_alloc | apply pw_below_drewN | apply below_drew1) | exact HB.out)) hb); clear HO_27; clear HB; have HO_27 := n0_; have HB := n1_; clear n0_ n1_; (try clear hb); (try clear hb2); (try clear hk); (try clear hi)))
                              go_roundg kj15
                              case measure => have := HK1.out; have := HJ15.out; omega
                              case rel => exact ⟨(false), (wrap64 (x29_1 + 1)), (by first | rfl | (simp; done) | (simp [*]; done)), (by first | rfl | (simp; done) | (simp [*]; done)), H', ⟨by have := HK1.out; have := HJ15.out; omega⟩, ⟨by (with_reducible repeat (first | apply Kd.R_alloc | apply Kd.R_drewN | apply Kd.R_drew)); exact HO_27.out⟩, ⟨by repeat (first | (with_reducible first | exact HB.out | apply below_alloc | apply pw_below_drewN | apply below_drew1) | exact HB.out)⟩⟩
                        · rw [if_neg c58] at H
                          have c58b0 : decide (28 ≤ t261) = false := decide_eq_false c58
                          clear c58
                          by_cases c76 : (rd y256 x29_1) < 1199
                          · rw [if_pos c76] at H
                            have c76b0 : decide ((rd y256 x29_1) < 1199) = true := decide_eq_true c76
                            clear c76
                            have H' := Aside0.mk H
                            clear H
                            go_wp2_with (first | ((with_reducible refine gate_callee (f := 21) rfl ?_); refine goesL_ (some 40) rfl rfl Tryd.func21 (by kernel_rfl) rfl #[.int .i64 (rd y256 x29_1)] rfl (by (try simp only [List.map_toArray, List.map_cons, List.map_nil]); first | done | rfl | (simp only [List.length_drop, List.length_take]; rfl)) ?_; (with_reducible refine (calendar_First.calls (rd y256 x29_1) t260 _ A19.out (TabBefore.below hTBefore.out (by repeat (first | exact HB.out | exact Below.refl _ _ | apply below_alloc | apply pw_below_drewN | apply below_drew1 | apply below_drew)))).mono ?_); rintro e w77 ⟨rfl, hb⟩; refine ⟨_, rfl, ?_⟩; have n0_ := Aside0.mk (Kd.R_below (by (with_reducible repeat (first | apply Kd.R_alloc | apply Kd.R_drewN | apply Kd.R_drew)); exact HO_27.out) hb); have n1_ := Aside0.mk (below_step (by repeat (first | (with_reducible first | exact HB.out | apply below_alloc | apply pw_below_drewN | apply below_drew1) | exact HB.out)) hb); clear HO_27; clear HB; have HO_27 := n0_; have HB := n1_; clear n0_ n1_; (try clear hb); (try clear hb2); (try clear hk); (try clear hi)) | ((with_reducible refine gate_callee (f := 23) rfl ?_); refine goesL_ (some 42) rfl rfl Tryd.func23 (by kernel_rfl) rfl #[.int .i64 (rd y256 x29_1)] rfl (by (try simp only [List.map_toArray, List.map_cons, List.map_nil]); first | done | rfl | (simp only [List.length_drop, List.length_take]; rfl)) ?_; (with_reducible refine (calendar_Length.calls (rd y256 x29_1) t261 _ A20.out (TabBefore.below hTBefore.out (by repeat (first | exact HB.out | exact Below.refl _ _ | apply below_alloc | apply pw_below_drewN | apply below_drew1 | apply below_drew)))).mono ?_); rintro e w78 ⟨rfl, hb⟩; refine ⟨_, rfl, ?_⟩; have n0_ := Aside0.mk (Kd.R_below (by (with_reducible repeat (first | apply Kd.R_alloc | apply Kd.R_drewN | apply Kd.R_drew)); exact HO_27.out) hb); have n1_ := Aside0.mk (below_step (by repeat (first | (with_reducible first | exact HB.out | apply below_alloc | apply pw_below_drewN | apply below_drew1) | exact HB.out)) hb); clear HO_27; clear HB; have HO_27 := n0_; have HB := n1_; clear n0_ n1_; (try clear hb); (try clear hb2); (try clear hk); (try clear hi)) | (go_at_call 17; (with_reducible refine (calendar_Month.calls t252 t253 _ A22.out (TabBefore.below hTBefore.out (by repeat (first | exact HB.out | exact Below.refl _ _ | apply below_alloc | apply pw_below_drewN | apply below_drew1 | apply below_drew)))).mono ?_); rintro e w79 ⟨rfl, hb⟩; have n0_ := Aside0.mk (Kd.R_below (by (with_reducible repeat (first | apply Kd.R_alloc | apply Kd.R_drewN | apply Kd.R_drew)); exact HO_27.out) hb); have n1_ := Aside0.mk (below_step (by repeat (first | (with_reducible first | exact HB.out | apply below_alloc | apply pw_below_drewN | apply below_drew1) | exact HB.out)) hb); clear HO_27; clear HB; have HO_27 := n0_; have HB := n1_; clear n0_ n1_; (try clear hb); (try clear hb2); (try clear hk); (try clear hi)))
                            go_roundg kj15
                            case measure => have := HK1.out; have := HJ15.out; omega
                            case rel => exact ⟨(false), (wrap64 (x29_1 + 1)), (by first | rfl | (simp; done) | (simp [*]; done)), (by first | rfl | (simp; done) | (simp [*]; done)), H', ⟨by have := HK1.out; have := HJ15.out; omega⟩, ⟨by (with_reducible repeat (first | apply Kd.R_alloc | apply Kd.R_drewN | apply Kd.R_drew)); exact HO_27.out⟩, ⟨by repeat (first | (with_reducible first | exact HB.out | apply below_alloc | apply pw_below_drewN | apply below_drew1) | exact HB.out)⟩⟩
                          · rw [if_neg c76] at H
                            have c76b0 : decide ((rd y256 x29_1) < 1199) = false := decide_eq_false c76
                            clear c76
                            have H' := Aside0.mk H
                            clear H
                            go_wp2_with (first | ((with_reducible refine gate_callee (f := 21) rfl ?_); refine goesL_ (some 40) rfl rfl Tryd.func21 (by kernel_rfl) rfl #[.int .i64 (rd y256 x29_1)] rfl (by (try simp only [List.map_toArray, List.map_cons, List.map_nil]); first | done | rfl | (simp only [List.length_drop, List.length_take]; rfl)) ?_; (with_reducible refine (calendar_First.calls (rd y256 x29_1) t260 _ A19.out (TabBefore.below hTBefore.out (by repeat (first | exact HB.out | exact Below.refl _ _ | apply below_alloc | apply pw_below_drewN | apply below_drew1 | apply below_drew)))).mono ?_); rintro e w80 ⟨rfl, hb⟩; refine ⟨_, rfl, ?_⟩; have n0_ := Aside0.mk (Kd.R_below (by (with_reducible repeat (first | apply Kd.R_alloc | apply Kd.R_drewN | apply Kd.R_drew)); exact HO_27.out) hb); have n1_ := Aside0.mk (below_step (by repeat (first | (with_reducible first | exact HB.out | apply below_alloc | apply pw_below_drewN | apply below_drew1) | exact HB.out)) hb); clear HO_27; clear HB; have HO_27 := n0_; have HB := n1_; clear n0_ n1_; (try clear hb); (try clear hb2); (try clear hk); (try clear hi)) | ((with_reducible refine gate_callee (f := 23) rfl ?_); refine goesL_ (some 42) rfl rfl Tryd.func23 (by kernel_rfl) rfl #[.int .i64 (rd y256 x29_1)] rfl (by (try simp only [List.map_toArray, List.map_cons, List.map_nil]); first | done | rfl | (simp only [List.length_drop, List.length_take]; rfl)) ?_; (with_reducible refine (calendar_Length.calls (rd y256 x29_1) t261 _ A20.out (TabBefore.below hTBefore.out (by repeat (first | exact HB.out | exact Below.refl _ _ | apply below_alloc | apply pw_below_drewN | apply below_drew1 | apply below_drew)))).mono ?_); rintro e w81 ⟨rfl, hb⟩; refine ⟨_, rfl, ?_⟩; have n0_ := Aside0.mk (Kd.R_below (by (with_reducible repeat (first | apply Kd.R_alloc | apply Kd.R_drewN | apply Kd.R_drew)); exact HO_27.out) hb); have n1_ := Aside0.mk (below_step (by repeat (first | (with_reducible first | exact HB.out | apply below_alloc | apply pw_below_drewN | apply below_drew1) | exact HB.out)) hb); clear HO_27; clear HB; have HO_27 := n0_; have HB := n1_; clear n0_ n1_; (try clear hb); (try clear hb2); (try clear hk); (try clear hi)) | (go_at_call 17; (with_reducible refine (calendar_Month.calls t252 t253 _ A22.out (TabBefore.below hTBefore.out (by repeat (first | exact HB.out | exact Below.refl _ _ | apply below_alloc | apply pw_below_drewN | apply below_drew1 | apply below_drew)))).mono ?_); rintro e w82 ⟨rfl, hb⟩; have n0_ := Aside0.mk (Kd.R_below (by (with_reducible repeat (first | apply Kd.R_alloc | apply Kd.R_drewN | apply Kd.R_drew)); exact HO_27.out) hb); have n1_ := Aside0.mk (below_step (by repeat (first | (with_reducible first | exact HB.out | apply below_alloc | apply pw_below_drewN | apply below_drew1) | exact HB.out)) hb); clear HO_27; clear HB; have HO_27 := n0_; have HB := n1_; clear n0_ n1_; (try clear hb); (try clear hb2); (try clear hk); (try clear hi)))
                            go_roundg kj15
                            case measure => have := HK1.out; have := HJ15.out; omega
                            case rel => exact ⟨(false), (wrap64 (x29_1 + 1)), (by first | rfl | (simp; done) | (simp [*]; done)), (by first | rfl | (simp; done) | (simp [*]; done)), H', ⟨by have := HK1.out; have := HJ15.out; omega⟩, ⟨by (with_reducible repeat (first | apply Kd.R_alloc | apply Kd.R_drewN | apply Kd.R_drew)); exact HO_27.out⟩, ⟨by repeat (first | (with_reducible first | exact HB.out | apply below_alloc | apply pw_below_drewN | apply below_drew1) | exact HB.out)⟩⟩
                      · rw [if_neg c57] at H
                        have c57b0 : ((t253 == (rd y256 x29_1)) == false) = false := by simpa using c57
                        (try (have c57b1 : decide ((t253 == (rd y256 x29_1)) = false) = false := by simpa using c57))
                        (try (have c57b2 : ((t253 == (rd y256 x29_1)) == false) = false := by simpa using c57))
                        (try (have c57b3 : ¬ ((t253 == (rd y256 x29_1)) = false) := by simpa using c57))
                        clear c57
                        by_cases c83 : (rd y256 x29_1) < 1199
                        · rw [if_pos c83] at H
                          have c83b0 : decide ((rd y256 x29_1) < 1199) = true := decide_eq_true c83
                          clear c83
                          have H' := Aside0.mk H
                          clear H
                          go_wp2_with (first | ((with_reducible refine gate_callee (f := 21) rfl ?_); refine goesL_ (some 40) rfl rfl Tryd.func21 (by kernel_rfl) rfl #[.int .i64 (rd y256 x29_1)] rfl (by (try simp only [List.map_toArray, List.map_cons, List.map_nil]); first | done | rfl | (simp only [List.length_drop, List.length_take]; rfl)) ?_; (with_reducible refine (calendar_First.calls (rd y256 x29_1) t260 _ A19.out (TabBefore.below hTBefore.out (by repeat (first | exact HB.out | exact Below.refl _ _ | apply below_alloc | apply pw_below_drewN | apply below_drew1 | apply below_drew)))).mono ?_); rintro e w84 ⟨rfl, hb⟩; refine ⟨_, rfl, ?_⟩; have n0_ := Aside0.mk (Kd.R_below (by (with_reducible repeat (first | apply Kd.R_alloc | apply Kd.R_drewN | apply Kd.R_drew)); exact HO_27.out) hb); have n1_ := Aside0.mk (below_step (by repeat (first | (with_reducible first | exact HB.out | apply below_alloc | apply pw_below_drewN | apply below_drew1) | exact HB.out)) hb); clear HO_27; clear HB; have HO_27 := n0_; have HB := n1_; clear n0_ n1_; (try clear hb); (try clear hb2); (try clear hk); (try clear hi)) | ((with_reducible refine gate_callee (f := 23) rfl ?_); refine goesL_ (some 42) rfl rfl Tryd.func23 (by kernel_rfl) rfl #[.int .i64 (rd y256 x29_1)] rfl (by (try simp only [List.map_toArray, List.map_cons, List.map_nil]); first | done | rfl | (simp only [List.length_drop, List.length_take]; rfl)) ?_; (with_reducible refine (calendar_Length.calls (rd y256 x29_1) t261 _ A20.out (TabBefore.below hTBefore.out (by repeat (first | exact HB.out | exact Below.refl _ _ | apply below_alloc | apply pw_below_drewN | apply below_drew1 | apply below_drew)))).mono ?_); rintro e w85 ⟨rfl, hb⟩; refine ⟨_, rfl, ?_⟩; have n0_ := Aside0.mk (Kd.R_below (by (with_reducible repeat (first | apply Kd.R_alloc | apply Kd.R_drewN | apply Kd.R_drew)); exact HO_27.out) hb); have n1_ := Aside0.mk (below_step (by repeat (first | (with_reducible first | exact HB.out | apply below_alloc | apply pw_below_drewN | apply below_drew1) | exact HB.out)) hb); clear HO_27; clear HB; have HO_27 := n0_; have HB := n1_; clear n0_ n1_; (try clear hb); (try clear hb2); (try clear hk); (try clear hi)) | (go_at_call 17; (with_reducible refine (calendar_Month.calls t252 t253 _ A22.out (TabBefore.below hTBefore.out (by repeat (first | exact HB.out | exact Below.refl _ _ | apply below_alloc | apply pw_below_drewN | apply below_drew1 | apply below_drew)))).mono ?_); rintro e w86 ⟨rfl, hb⟩; have n0_ := Aside0.mk (Kd.R_below (by (with_reducible repeat (first | apply Kd.R_alloc | apply Kd.R_drewN | apply Kd.R_drew)); exact HO_27.out) hb); have n1_ := Aside0.mk (below_step (by repeat (first | (with_reducible first | exact HB.out | apply below_alloc | apply pw_below_drewN | apply below_drew1) | exact HB.out)) hb); clear HO_27; clear HB; have HO_27 := n0_; have HB := n1_; clear n0_ n1_; (try clear hb); (try clear hb2); (try clear hk); (try clear hi)))
                          go_roundg kj15
                          case measure => have := HK1.out; have := HJ15.out; omega
                          case rel => exact ⟨(false), (wrap64 (x29_1 + 1)), (by first | rfl | (simp; done) | (simp [*]; done)), (by first | rfl | (simp; done) | (simp [*]; done)), H', ⟨by have := HK1.out; have := HJ15.out; omega⟩, ⟨by (with_reducible repeat (first | apply Kd.R_alloc | apply Kd.R_drewN | apply Kd.R_drew)); exact HO_27.out⟩, ⟨by repeat (first | (with_reducible first | exact HB.out | apply below_alloc | apply pw_below_drewN | apply below_drew1) | exact HB.out)⟩⟩
                        · rw [if_neg c83] at H
                          have c83b0 : decide ((rd y256 x29_1) < 1199) = false := decide_eq_false c83
                          clear c83
                          have H' := Aside0.mk H
                          clear H
                          go_wp2_with (first | ((with_reducible refine gate_callee (f := 21) rfl ?_); refine goesL_ (some 40) rfl rfl Tryd.func21 (by kernel_rfl) rfl #[.int .i64 (rd y256 x29_1)] rfl (by (try simp only [List.map_toArray, List.map_cons, List.map_nil]); first | done | rfl | (simp only [List.length_drop, List.length_take]; rfl)) ?_; (with_reducible refine (calendar_First.calls (rd y256 x29_1) t260 _ A19.out (TabBefore.below hTBefore.out (by repeat (first | exact HB.out | exact Below.refl _ _ | apply below_alloc | apply pw_below_drewN | apply below_drew1 | apply below_drew)))).mono ?_); rintro e w87 ⟨rfl, hb⟩; refine ⟨_, rfl, ?_⟩; have n0_ := Aside0.mk (Kd.R_below (by (with_reducible repeat (first | apply Kd.R_alloc | apply Kd.R_drewN | apply Kd.R_drew)); exact HO_27.out) hb); have n1_ := Aside0.mk (below_step (by repeat (first | (with_reducible first | exact HB.out | apply below_alloc | apply pw_below_drewN | apply below_drew1) | exact HB.out)) hb); clear HO_27; clear HB; have HO_27 := n0_; have HB := n1_; clear n0_ n1_; (try clear hb); (try clear hb2); (try clear hk); (try clear hi)) | ((with_reducible refine gate_callee (f := 23) rfl ?_); refine goesL_ (some 42) rfl rfl Tryd.func23 (by kernel_rfl) rfl #[.int .i64 (rd y256 x29_1)] rfl (by (try simp only [List.map_toArray, List.map_cons, List.map_nil]); first | done | rfl | (simp only [List.length_drop, List.length_take]; rfl)) ?_; (with_reducible refine (calendar_Length.calls (rd y256 x29_1) t261 _ A20.out (TabBefore.below hTBefore.out (by repeat (first | exact HB.out | exact Below.refl _ _ | apply below_alloc | apply pw_below_drewN | apply below_drew1 | apply below_drew)))).mono ?_); rintro e w88 ⟨rfl, hb⟩; refine ⟨_, rfl, ?_⟩; have n0_ := Aside0.mk (Kd.R_below (by (with_reducible repeat (first | apply Kd.R_alloc | apply Kd.R_drewN | apply Kd.R_drew)); exact HO_27.out) hb); have n1_ := Aside0.mk (below_step (by repeat (first | (with_reducible first | exact HB.out | apply below_alloc | apply pw_below_drewN | apply below_drew1) | exact HB.out)) hb); clear HO_27; clear HB; have HO_27 := n0_; have HB := n1_; clear n0_ n1_; (try clear hb); (try clear hb2); (try clear hk); (try clear hi)) | (go_at_call 17; (with_reducible refine (calendar_Month.calls t252 t253 _ A22.out (TabBefore.below hTBefore.out (by repeat (first | exact HB.out | exact Below.refl _ _ | apply below_alloc | apply pw_below_drewN | apply below_drew1 | apply below_drew)))).mono ?_); rintro e w89 ⟨rfl, hb⟩; have n0_ := Aside0.mk (Kd.R_below (by (with_reducible repeat (first | apply Kd.R_alloc | apply Kd.R_drewN | apply Kd.R_drew)); exact HO_27.out) hb); have n1_ := Aside0.mk (below_step (by repeat (first | (with_reducible first | exact HB.out | apply below_alloc | apply pw_below_drewN | apply below_drew1) | exact HB.out)) hb); clear HO_27; clear HB; have HO_27 := n0_; have HB := n1_; clear n0_ n1_; (try clear hb); (try clear hb2); (try clear hk); (try clear hi)))
                          go_roundg kj15
                          case measure => have := HK1.out; have := HJ15.out; omega
                          case rel => exact ⟨(false), (wrap64 (x29_1 + 1)), (by first | rfl | (simp; done) | (simp [*]; done)), (by first | rfl | (simp; done) | (simp [*]; done)), H', ⟨by have := HK1.out; have := HJ15.out; omega⟩, ⟨by (with_reducible repeat (first | apply Kd.R_alloc | apply Kd.R_drewN | apply Kd.R_drew)); exact HO_27.out⟩, ⟨by repeat (first | (with_reducible first | exact HB.out | apply below_alloc | apply pw_below_drewN | apply below_drew1) | exact HB.out)⟩⟩
                  · replace c21 := Bool.eq_false_iff.mpr c21
                    subst c21
                    have H1 : (if (rd y256 x29_1) < 1199 then (wageofficelaw02_CalendarMonths.l0 kj15 a1 false t252 y256 (y256.length : Int) (wrap64 (x29_1 + 1))) else (wageofficelaw02_CalendarMonths.l0 kj15 a1 false t252 y256 (y256.length : Int) (wrap64 (x29_1 + 1)))) = some r := by rw [if_neg (show ¬ (false = true) by decide)] at H; exact H
                    clear H
                    have H := H1
                    clear H1
                    by_cases c90 : (rd y256 x29_1) < 1199
                    · rw [if_pos c90] at H
                      have c90b0 : decide ((rd y256 x29_1) < 1199) = true := decide_eq_true c90
                      clear c90
                      have H' := Aside0.mk H
                      clear H
                      go_wp2_with (first | ((with_reducible refine gate_callee (f := 21) rfl ?_); refine goesL_ (some 40) rfl rfl Tryd.func21 (by kernel_rfl) rfl #[.int .i64 (rd y256 x29_1)] rfl (by (try simp only [List.map_toArray, List.map_cons, List.map_nil]); first | done | rfl | (simp only [List.length_drop, List.length_take]; rfl)) ?_; (with_reducible refine (calendar_First.calls (rd y256 x29_1) t260 _ A19.out (TabBefore.below hTBefore.out (by repeat (first | exact HB.out | exact Below.refl _ _ | apply below_alloc | apply pw_below_drewN | apply below_drew1 | apply below_drew)))).mono ?_); rintro e w91 ⟨rfl, hb⟩; refine ⟨_, rfl, ?_⟩; have n0_ := Aside0.mk (Kd.R_below (by (with_reducible repeat (first | apply Kd.R_alloc | apply Kd.R_drewN | apply Kd.R_drew)); exact HO_27.out) hb); have n1_ := Aside0.mk (below_step (by repeat (first | (with_reducible first | exact HB.out | apply below_alloc | apply pw_below_drewN | apply below_drew1) | exact HB.out)) hb); clear HO_27; clear HB; have HO_27 := n0_; have HB := n1_; clear n0_ n1_; (try clear hb); (try clear hb2); (try clear hk); (try clear hi)) | ((with_reducible refine gate_callee (f := 23) rfl ?_); refine goesL_ (some 42) rfl rfl Tryd.func23 (by kernel_rfl) rfl #[.int .i64 (rd y256 x29_1)] rfl (by (try simp only [List.map_toArray, List.map_cons, List.map_nil]); first | done | rfl | (simp only [List.length_drop, List.length_take]; rfl)) ?_; (with_reducible refine (calendar_Length.calls (rd y256 x29_1) t261 _ A20.out (TabBefore.below hTBefore.out (by repeat (first | exact HB.out | exact Below.refl _ _ | apply below_alloc | apply pw_below_drewN | apply below_drew1 | apply below_drew)))).mono ?_); rintro e w92 ⟨rfl, hb⟩; refine ⟨_, rfl, ?_⟩; have n0_ := Aside0.mk (Kd.R_below (by (with_reducible repeat (first | apply Kd.R_alloc | apply Kd.R_drewN | apply Kd.R_drew)); exact HO_27.out) hb); have n1_ := Aside0.mk (below_step (by repeat (first | (with_reducible first | exact HB.out | apply below_alloc | apply pw_below_drewN | apply below_drew1) | exact HB.out)) hb); clear HO_27; clear HB; have HO_27 := n0_; have HB := n1_; clear n0_ n1_; (try clear hb); (try clear hb2); (try clear hk); (try clear hi)))
                      go_roundg kj15
                      case measure => have := HK1.out; have := HJ15.out; omega
                      case rel => exact ⟨(false), (wrap64 (x29_1 + 1)), (by first | rfl | (simp; done) | (simp [*]; done)), (by first | rfl | (simp; done) | (simp [*]; done)), H', ⟨by have := HK1.out; have := HJ15.out; omega⟩, ⟨by (with_reducible repeat (first | apply Kd.R_alloc | apply Kd.R_drewN | apply Kd.R_drew)); exact HO_27.out⟩, ⟨by repeat (first | (with_reducible first | exact HB.out | apply below_alloc | apply pw_below_drewN | apply below_drew1) | exact HB.out)⟩⟩
                    · rw [if_neg c90] at H
                      have c90b0 : decide ((rd y256 x29_1) < 1199) = false := decide_eq_false c90
                      clear c90
                      have H' := Aside0.mk H
                      clear H
                      go_wp2_with (first | ((with_reducible refine gate_callee (f := 21) rfl ?_); refine goesL_ (some 40) rfl rfl Tryd.func21 (by kernel_rfl) rfl #[.int .i64 (rd y256 x29_1)] rfl (by (try simp only [List.map_toArray, List.map_cons, List.map_nil]); first | done | rfl | (simp only [List.length_drop, List.length_take]; rfl)) ?_; (with_reducible refine (calendar_First.calls (rd y256 x29_1) t260 _ A19.out (TabBefore.below hTBefore.out (by repeat (first | exact HB.out | exact Below.refl _ _ | apply below_alloc | apply pw_below_drewN | apply below_drew1 | apply below_drew)))).mono ?_); rintro e w93 ⟨rfl, hb⟩; refine ⟨_, rfl, ?_⟩; have n0_ := Aside0.mk (Kd.R_below (by (with_reducible repeat (first | apply Kd.R_alloc | apply Kd.R_drewN | apply Kd.R_drew)); exact HO_27.out) hb); have n1_ := Aside0.mk (below_step (by repeat (first | (with_reducible first | exact HB.out | apply below_alloc | apply pw_below_drewN | apply below_drew1) | exact HB.out)) hb); clear HO_27; clear HB; have HO_27 := n0_; have HB := n1_; clear n0_ n1_; (try clear hb); (try clear hb2); (try clear hk); (try clear hi)) | ((with_reducible refine gate_callee (f := 23) rfl ?_); refine goesL_ (some 42) rfl rfl Tryd.func23 (by kernel_rfl) rfl #[.int .i64 (rd y256 x29_1)] rfl (by (try simp only [List.map_toArray, List.map_cons, List.map_nil]); first | done | rfl | (simp only [List.length_drop, List.length_take]; rfl)) ?_; (with_reducible refine (calendar_Length.calls (rd y256 x29_1) t261 _ A20.out (TabBefore.below hTBefore.out (by repeat (first | exact HB.out | exact Below.refl _ _ | apply below_alloc | apply pw_below_drewN | apply below_drew1 | apply below_drew)))).mono ?_); rintro e w94 ⟨rfl, hb⟩; refine ⟨_, rfl, ?_⟩; have n0_ := Aside0.mk (Kd.R_below (by (with_reducible repeat (first | apply Kd.R_alloc | apply Kd.R_drewN | apply Kd.R_drew)); exact HO_27.out) hb); have n1_ := Aside0.mk (below_step (by repeat (first | (with_reducible first | exact HB.out | apply below_alloc | apply pw_below_drewN | apply below_drew1) | exact HB.out)) hb); clear HO_27; clear HB; have HO_27 := n0_; have HB := n1_; clear n0_ n1_; (try clear hb); (try clear hb2); (try clear hk); (try clear hi)))
                      go_roundg kj15
                      case measure => have := HK1.out; have := HJ15.out; omega
                      case rel => exact ⟨(false), (wrap64 (x29_1 + 1)), (by first | rfl | (simp; done) | (simp [*]; done)), (by first | rfl | (simp; done) | (simp [*]; done)), H', ⟨by have := HK1.out; have := HJ15.out; omega⟩, ⟨by (with_reducible repeat (first | apply Kd.R_alloc | apply Kd.R_drewN | apply Kd.R_drew)); exact HO_27.out⟩, ⟨by repeat (first | (with_reducible first | exact HB.out | apply below_alloc | apply pw_below_drewN | apply below_drew1) | exact HB.out)⟩⟩
          · rw [if_neg c15] at H
            exact absurd H (by simp)
        · rw [if_neg c14] at H
          exact absurd H (by simp)
      · rw [if_neg c13] at H
        have c13b0 : decide (x29_1 < (y256.length : Int)) = false := decide_eq_false c13
        clear c13
        replace H := Option.bind_eq_some_iff.mp H
        obtain ⟨t265, A950, H⟩ := H
        replace H : (wageofficelaw02_CalendarMonths.l1 k1 x5_1 0 t265 0) = some r := H
        have A95 := Aside0.mk A950
        clear A950
        have H' := Aside0.mk H
        clear H
        go_wp2_with (first | ((with_reducible refine gate_callee (f := 10) rfl ?_); refine goesL_ (some 90) rfl rfl Tryd.func10 (by kernel_rfl) rfl #[.int .i64 a1, .int .i64 1153] rfl (by (try simp only [List.map_toArray, List.map_cons, List.map_nil]); first | done | rfl | (simp only [List.length_drop, List.length_take]; rfl)) ?_; (with_reducible refine (wageofficelaw02_pick.calls a1 1153 t265 _ A95.out).mono ?_); rintro e w' ⟨rfl, ⟨nd, rfl⟩⟩; refine ⟨_, rfl, ?_⟩))
        go_loopg [12, 14] k1 (fun kq v12 v14 w' => ∃ (x12_2 : Int) (x14_2 : Int), v12 = .int .i64 x12_2 ∧ v14 = .int .i64 x14_2 ∧ Aside0 (wageofficelaw02_CalendarMonths.l1 kq x5_1 x12_2 t265 x14_2 = some r) ∧ Aside0 (kq ≤ k1) ∧ Aside0 (Below w.heap.size w w'))
        case atStart => exact ⟨(0), (0), (by first | rfl | (simp; done) | (simp [*]; done)), (by first | rfl | (simp; done) | (simp [*]; done)), H', ⟨Nat.le_refl _⟩, ⟨by repeat (first | (with_reducible first | exact HB.out | apply below_alloc | apply pw_below_drewN | apply below_drew1) | exact HB.out)⟩⟩
        case round =>
          clear H'
          try clear c1
          try clear c2
          try clear p2
          try clear q2
          try clear hx2
          try clear c3
          try clear c4
          try clear c5
          try clear c6
          try clear p6
          try clear c7
          try clear c8
          try clear c9
          try clear c10
          try clear c13
          try clear c13b0
          try clear c14
          try clear c14b0
          try clear c15
          try clear c15b0
          try clear c17
          try clear c17b0
          try clear c18
          try clear c21
          try clear c23
          try clear c23b0
          try clear c24
          try clear c24b0
          try clear c24b1
          try clear c24b2
          try clear c25
          try clear c25b0
          try clear p25
          try clear q25
          try clear hx25
          try clear c26
          try clear c26b0
          try clear c27
          try clear c27b0
          try clear c36
          try clear c36b0
          try clear c43
          try clear c43b0
          try clear c50
          try clear c50b0
          try clear c57
          try clear c57b0
          try clear c57b1
          try clear c57b2
          try clear c58
          try clear c58b0
          try clear c59
          try clear c59b0
          try clear c60
          try clear c60b0
          try clear p64
          try clear c69
          try clear c69b0
          try clear c76
          try clear c76b0
          try clear c83
          try clear c83b0
          try clear c90
          try clear c90b0
          try clear hx259_0
          try clear p2
          try clear p259
          try clear p6
          try clear q2
          try clear q259
          obtain ⟨x12_2, x14_2, rfl, rfl, HA, HK2, HB⟩ := hrel
          cases gk with
          | zero => exact absurd HA.out (by simp [wageofficelaw02_CalendarMonths.l1])
          | succ k2 =>
            have H := HA.out
            clear HA
            simp only [wageofficelaw02_CalendarMonths.l1] at H
            by_cases c96 : x14_2 < 48
            · rw [if_pos c96] at H
              have c96b0 : decide (x14_2 < 48) = true := decide_eq_true c96
              clear c96
              replace H := Option.bind_eq_some_iff.mp H
              obtain ⟨t266, A970, H⟩ := H
              replace H : (wageofficelaw02_CalendarMonths.l1 k2 x5_1 (wrap64 (x12_2 + t266)) t265 (wrap64 (x14_2 + 1))) = some r := H
              have A97 := Aside0.mk A970
              clear A970
              have H' := Aside0.mk H
              clear H
              go_wp2_with (first | ((with_reducible refine gate_callee (f := 23) rfl ?_); refine goesL_ (some 99) rfl rfl Tryd.func23 (by kernel_rfl) rfl #[.int .i64 (wrap64 (t265 + x14_2))] rfl (by (try simp only [List.map_toArray, List.map_cons, List.map_nil]); first | done | rfl | (simp only [List.length_drop, List.length_take]; rfl)) ?_; (with_reducible refine (calendar_Length.calls (wrap64 (t265 + x14_2)) t266 _ A97.out (TabBefore.below hTBefore.out (by repeat (first | exact HB.out | exact Below.refl _ _ | apply below_alloc | apply pw_below_drewN | apply below_drew1 | apply below_drew)))).mono ?_); rintro e w98 ⟨rfl, hb⟩; refine ⟨_, rfl, ?_⟩; have n0_ := Aside0.mk (below_step (by repeat (first | (with_reducible first | exact HB.out | apply below_alloc | apply pw_below_drewN | apply below_drew1) | exact HB.out)) hb); clear HB; have HB := n0_; clear n0_; (try clear hb); (try clear hb2); (try clear hk); (try clear hi)))
              go_roundg k2
              case measure => have := HK1.out; have := HK2.out; omega
              case rel => exact ⟨(wrap64 (x12_2 + t266)), (wrap64 (x14_2 + 1)), (by first | rfl | (simp; done) | (simp [*]; done)), (by first | rfl | (simp; done) | (simp [*]; done)), H', ⟨by have := HK1.out; have := HK2.out; omega⟩, ⟨by repeat (first | (with_reducible first | exact HB.out | apply below_alloc | apply pw_below_drewN | apply below_drew1) | exact HB.out)⟩⟩
            · rw [if_neg c96] at H
              have c96b0 : decide (x14_2 < 48) = false := decide_eq_false c96
              clear c96
              by_cases c99 : x5_1 = true
              · subst c99
                have H1 : (some (x12_2 == 1461)) = some r := by rw [if_pos rfl] at H; exact H
                clear H
                have H := H1
                clear H1
                obtain rfl := Option.some.inj H
                go_wp2
                go_ret
                exact ⟨by first | rfl | (simp [errW_none, errW_some] <;> rfl) | (simp [*, errW_none, errW_some] <;> rfl), by repeat (first | (with_reducible first | exact HB.out | apply below_alloc | apply pw_below_drewN | apply below_drew1) | exact HB.out)⟩
              · replace c99 := Bool.eq_false_iff.mpr c99
                subst c99
                have H1 : (some false) = some r := by rw [if_neg (show ¬ (false = true) by decide)] at H; exact H
                clear H
                have H := H1
                clear H1
                obtain rfl := Option.some.inj H
                go_wp2
                go_ret
                exact ⟨by first | rfl | (simp [errW_none, errW_some] <;> rfl) | (simp [*, errW_none, errW_some] <;> rfl), by repeat (first | (with_reducible first | exact HB.out | apply below_alloc | apply pw_below_drewN | apply below_drew1) | exact HB.out)⟩

/-- THE ONE PURE STATEMENT of wageofficelaw02_CalendarMonths: yours. -/
def wageofficelaw02_CalendarMonths.Pure : Prop := ∀ (a0 : Int) (a1 : Int), (Lit.int .i64 a0).wf = true → (Lit.int .i64 a1).wf = true → ∃ k, wageofficelaw02_CalendarMonths.f k a0 a1 = some true
end Go.Proofs.YthakhcnpiobpgaaDoor.PAll
