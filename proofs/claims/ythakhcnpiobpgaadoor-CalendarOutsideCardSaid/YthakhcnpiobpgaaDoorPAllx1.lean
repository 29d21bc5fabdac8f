-- Written by myprint.py over the kit's print.py (a printed text of this session's own make).
import Derived.Test.YthakhcnpiobpgaaDoorPAllx0
namespace Go.Proofs.YthakhcnpiobpgaaDoor.PAll
open Go.Proofs.YthakhcnpiobpgaaDoor.Stub Go.Proofs.YthakhcnpiobpgaaDoor.CalA
open Go.RowKit Go.Proofs.YthakhcnpiobpgaaDoorW.PrintWords Go.Proofs.YthakhcnpiobpgaaDoorW.PrintLast Go.Proofs.YthakhcnpiobpgaaDoorW.PrintMore
attribute [local go_sem] max2_int min2_int max_two min_two max_three min_three max_four min_four   -- for this text's walks alone
set_option linter.unusedVariables false
set_option linter.unusedSimpArgs false

/-! ### calendar_isMonth: function 31 -/
def calendar_isMonth.f (a0 : Int) : Option (Bool) := if a0 ≥ 0 then (some (decide (a0 ≤ 1199))) else (some false)
set_option maxHeartbeats 8000000 in
set_option maxRecDepth 100000 in
theorem calendar_isMonth.calls (a0 : Int) (r : Bool) (w : World) (h : calendar_isMonth.f a0 = some r) :
    Calls Tryd.prog 31 #[.int .i64 a0] w fun e w' => e = .returned (.bool r) ∧ Drawn0 w w' := by
  have H : (if a0 ≥ 0 then (some (decide (a0 ≤ 1199))) else (some false)) = some r := h
  clear h
  by_cases c2 : a0 ≥ 0
  · rw [if_pos c2] at H
    have c2b0 : decide (0 ≤ a0) = true := decide_eq_true c2
    clear c2
    obtain rfl := Option.some.inj H
    go_enter Tryd.func31, Tryd.ntmps31
    go_wp2
    go_ret
    exact ⟨by first | rfl | (simp; done) | (simp [*]; done), by repeat (first | exact Drawn0.refl _ | apply Drawn0.step)⟩
  · rw [if_neg c2] at H
    have c2b0 : decide (0 ≤ a0) = false := decide_eq_false c2
    clear c2
    obtain rfl := Option.some.inj H
    go_enter Tryd.func31, Tryd.ntmps31
    go_wp2
    go_ret
    exact ⟨by first | rfl | (simp; done) | (simp [*]; done), by repeat (first | exact Drawn0.refl _ | apply Drawn0.step)⟩

/-! ### calendar_start: function 34 -/
def calendar_start.f (a0 : Int) : Option (Int) := some (wrap64 ((wrap64 ((wrap64 ((wrap64 (Int.tdiv (wrap64 (a0 - 2000)) 4)) * 1461)) + (wrap64 ((Int.tmod (wrap64 (a0 - 2000)) 4) * 365)))) + (mn (Int.tmod (wrap64 (a0 - 2000)) 4) 1)))
set_option maxHeartbeats 8000000 in
set_option maxRecDepth 100000 in
theorem calendar_start.calls (a0 : Int) (r : Int) (w : World) (h : calendar_start.f a0 = some r) :
    Calls Tryd.prog 34 #[.int .i64 a0] w fun e w' => e = .returned (.int .i64 r) ∧ Below w.heap.size w w' := by
  have HB := Aside0.mk (Below.refl w.heap.size w)
  have H : (some (wrap64 ((wrap64 ((wrap64 ((wrap64 (Int.tdiv (wrap64 (a0 - 2000)) 4)) * 1461)) + (wrap64 ((Int.tmod (wrap64 (a0 - 2000)) 4) * 365)))) + (mn (Int.tmod (wrap64 (a0 - 2000)) 4) 1)))) = some r := h
  clear h
  obtain ⟨ji2, hji2⟩ : ∃ j_ : Int, (mn (Int.tmod (wrap64 (a0 - 2000)) 4) 1) = j_ := ⟨_, rfl⟩
  replace H : (some (wrap64 ((wrap64 ((wrap64 ((wrap64 (Int.tdiv (wrap64 (a0 - 2000)) 4)) * 1461)) + (wrap64 ((Int.tmod (wrap64 (a0 - 2000)) 4) * 365)))) + (ji2)))) = some r := by first | (rw [hji2] at H; exact H) | (simp only [hji2] at H ⊢; exact H)
  (try (have hji2h : ji2 ≤ 1 := by (rw [← hji2]; unfold mn; (repeat' split) <;> omega)))
  (try (have hji2g : ji2 ≤ 64 := by omega))
  have hji2_ : (if 1 < (Int.tmod (wrap64 (a0 - 2000)) 4) then 1 else (Int.tmod (wrap64 (a0 - 2000)) 4)) = ji2 := hji2
  obtain rfl := Option.some.inj H
  go_enter Tryd.func34, Tryd.ntmps34
  go_wp2
  go_ret
  exact ⟨by first | rfl | (simp [errW_none, errW_some] <;> rfl) | (simp only [← hji2]; first | rfl | (simp [errW_none, errW_some] <;> rfl)) | (simp [*, errW_none, errW_some] <;> rfl), by repeat (first | (with_reducible first | exact HB.out | apply below_alloc | apply pw_below_drewN | apply below_drew1) | exact HB.out)⟩

-- GIVEN BY A TEXT OF ITS OWN: function 21 (calendar_First)

-- GIVEN BY A TEXT OF ITS OWN: function 23 (calendar_Length)

/-! ### calendar_isDay: function 30 -/
def calendar_isDay.f (a0 : Int) : Option (Bool) := if a0 ≥ 0 then (some (decide (a0 ≤ 36524))) else (some false)
set_option maxHeartbeats 8000000 in
set_option maxRecDepth 100000 in
theorem calendar_isDay.calls (a0 : Int) (r : Bool) (w : World) (h : calendar_isDay.f a0 = some r) :
    Calls Tryd.prog 30 #[.int .i64 a0] w fun e w' => e = .returned (.bool r) ∧ Drawn0 w w' := by
  have H : (if a0 ≥ 0 then (some (decide (a0 ≤ 36524))) else (some false)) = some r := h
  clear h
  by_cases c2 : a0 ≥ 0
  · rw [if_pos c2] at H
    have c2b0 : decide (0 ≤ a0) = true := decide_eq_true c2
    clear c2
    obtain rfl := Option.some.inj H
    go_enter Tryd.func30, Tryd.ntmps30
    go_wp2
    go_ret
    exact ⟨by first | rfl | (simp; done) | (simp [*]; done), by repeat (first | exact Drawn0.refl _ | apply Drawn0.step)⟩
  · rw [if_neg c2] at H
    have c2b0 : decide (0 ≤ a0) = false := decide_eq_false c2
    clear c2
    obtain rfl := Option.some.inj H
    go_enter Tryd.func30, Tryd.ntmps30
    go_wp2
    go_ret
    exact ⟨by first | rfl | (simp; done) | (simp [*]; done), by repeat (first | exact Drawn0.refl _ | apply Drawn0.step)⟩

-- GIVEN BY A TEXT OF ITS OWN: function 17 (calendar_Month)

/-! ### calendar_Date: function 11 -/
def calendar_Date.f (a0 : Int) : Option (Int × Int × Int) := (calendar_Month.f a0).bind fun t101 => (if t101 < 0 then (some (0, 0, 0)) else ((calendar_First.f t101).bind fun t102 => (some (wrap64 (2000 + (wrap64 (Int.tdiv t101 12))), wrap64 ((Int.tmod t101 12) + 1), wrap64 ((wrap64 (a0 - t102)) + 1)))))
set_option maxHeartbeats 8000000 in
set_option maxRecDepth 100000 in
theorem calendar_Date.calls (a0 : Int) (r1 : Int) (r2 : Int) (r3 : Int) (w : World) (h : calendar_Date.f a0 = some (r1, r2, r3)) (hTBefore0 : TabBefore w) :
    Calls Tryd.prog 11 #[.int .i64 a0] w fun e w' => e = .returned (.tuple #[.int .i64 r1, .int .i64 r2, .int .i64 r3]) ∧ Below w.heap.size w w' := by
  have hTBefore := Aside0.mk hTBefore0
  clear hTBefore0
  have HB := Aside0.mk (Below.refl w.heap.size w)
  have H : ((calendar_Month.f a0).bind fun t101 => (if t101 < 0 then (some (0, 0, 0)) else ((calendar_First.f t101).bind fun t102 => (some (wrap64 (2000 + (wrap64 (Int.tdiv t101 12))), wrap64 ((Int.tmod t101 12) + 1), wrap64 ((wrap64 (a0 - t102)) + 1)))))) = some (r1, r2, r3) := h
  clear h
  replace H := Option.bind_eq_some_iff.mp H
  obtain ⟨t101, A20, H⟩ := H
  replace H : (if t101 < 0 then (some (0, 0, 0)) else ((calendar_First.f t101).bind fun t102 => (some (wrap64 (2000 + (wrap64 (Int.tdiv t101 12))), wrap64 ((Int.tmod t101 12) + 1), wrap64 ((wrap64 (a0 - t102)) + 1))))) = some (r1, r2, r3) := H
  have A2 := Aside0.mk A20
  clear A20
  by_cases c3 : t101 < 0
  · rw [if_pos c3] at H
    have c3b0 : decide (t101 < 0) = true := decide_eq_true c3
    clear c3
    simp only [Option.some.injEq, Prod.mk.injEq] at H
    obtain ⟨rfl, rfl, rfl⟩ := H
    go_enter Tryd.func11, Tryd.ntmps11
    go_wp2_with (first | ((with_reducible refine gate_callee (f := 17) rfl ?_); refine goesL_ (some 7) rfl rfl Tryd.func17 (by kernel_rfl) rfl #[.int .i64 a0] rfl (by (try simp only [List.map_toArray, List.map_cons, List.map_nil]); first | done | rfl | (simp only [List.length_drop, List.length_take]; rfl)) ?_; (with_reducible refine (calendar_Month.calls a0 t101 _ A2.out (TabBefore.below hTBefore.out (by repeat (first | exact HB.out | exact Below.refl _ _ | apply below_alloc | apply pw_below_drewN | apply below_drew1 | apply below_drew)))).mono ?_); rintro e w4 ⟨rfl, hb⟩; refine ⟨_, rfl, ?_⟩; have n0_ := Aside0.mk (below_step (by repeat (first | (with_reducible first | exact HB.out | apply below_alloc | apply pw_below_drewN | apply below_drew1) | exact HB.out)) hb); clear HB; have HB := n0_; clear n0_; (try clear hb); (try clear hb2); (try clear hk); (try clear hi)))
    go_ret3
    exact ⟨by first | rfl | (simp [errW_none, errW_some] <;> rfl) | (simp [*, errW_none, errW_some] <;> rfl), by repeat (first | (with_reducible first | exact HB.out | apply below_alloc | apply pw_below_drewN | apply below_drew1) | exact HB.out)⟩
  · rw [if_neg c3] at H
    have c3b0 : decide (t101 < 0) = false := decide_eq_false c3
    clear c3
    replace H := Option.bind_eq_some_iff.mp H
    obtain ⟨t102, A50, H⟩ := H
    replace H : (some (wrap64 (2000 + (wrap64 (Int.tdiv t101 12))), wrap64 ((Int.tmod t101 12) + 1), wrap64 ((wrap64 (a0 - t102)) + 1))) = some (r1, r2, r3) := H
    have A5 := Aside0.mk A50
    clear A50
    simp only [Option.some.injEq, Prod.mk.injEq] at H
    obtain ⟨rfl, rfl, rfl⟩ := H
    go_enter Tryd.func11, Tryd.ntmps11
    go_wp2_with (first | ((with_reducible refine gate_callee (f := 17) rfl ?_); refine goesL_ (some 7) rfl rfl Tryd.func17 (by kernel_rfl) rfl #[.int .i64 a0] rfl (by (try simp only [List.map_toArray, List.map_cons, List.map_nil]); first | done | rfl | (simp only [List.length_drop, List.length_take]; rfl)) ?_; (with_reducible refine (calendar_Month.calls a0 t101 _ A2.out (TabBefore.below hTBefore.out (by repeat (first | exact HB.out | exact Below.refl _ _ | apply below_alloc | apply pw_below_drewN | apply below_drew1 | apply below_drew)))).mono ?_); rintro e w6 ⟨rfl, hb⟩; refine ⟨_, rfl, ?_⟩; have n0_ := Aside0.mk (below_step (by repeat (first | (with_reducible first | exact HB.out | apply below_alloc | apply pw_below_drewN | apply below_drew1) | exact HB.out)) hb); clear HB; have HB := n0_; clear n0_; (try clear hb); (try clear hb2); (try clear hk); (try clear hi)) | ((with_reducible refine gate_callee (f := 21) rfl ?_); refine goesL_ (some 18) rfl rfl Tryd.func21 (by kernel_rfl) rfl #[.int .i64 t101] rfl (by (try simp only [List.map_toArray, List.map_cons, List.map_nil]); first | done | rfl | (simp only [List.length_drop, List.length_take]; rfl)) ?_; (with_reducible refine (calendar_First.calls t101 t102 _ A5.out (TabBefore.below hTBefore.out (by repeat (first | exact HB.out | exact Below.refl _ _ | apply below_alloc | apply pw_below_drewN | apply below_drew1 | apply below_drew)))).mono ?_); rintro e w7 ⟨rfl, hb⟩; refine ⟨_, rfl, ?_⟩; have n0_ := Aside0.mk (below_step (by repeat (first | (with_reducible first | exact HB.out | apply below_alloc | apply pw_below_drewN | apply below_drew1) | exact HB.out)) hb); clear HB; have HB := n0_; clear n0_; (try clear hb); (try clear hb2); (try clear hk); (try clear hi)))
    go_ret3
    exact ⟨by first | rfl | (simp [errW_none, errW_some] <;> rfl) | (simp [*, errW_none, errW_some] <;> rfl), by repeat (first | (with_reducible first | exact HB.out | apply below_alloc | apply pw_below_drewN | apply below_drew1) | exact HB.out)⟩

/-! ### calendar_Later: function 13 -/
def calendar_Later.j0 : Nat → Int → Int → Bool → Option (Int × Int)
  | 0, _, _, _ => none
  | k + 1, x0, x1, x17 => if x17 = true then (some (0, 21)) else ((calendar_Month.f x0).bind fun t104 => ((calendar_isMonth.f (wrap64 (t104 + x1))).bind fun t105 => (if t105 = true then ((calendar_First.f (wrap64 (t104 + x1))).bind fun t106 => ((calendar_First.f t104).bind fun t107 => ((calendar_Length.f (wrap64 (t104 + x1))).bind fun t108 => (some (wrap64 (t106 + (mn (wrap64 (x0 - t107)) (wrap64 (t108 - 1)))), 0))))) else (some (0, 21)))))
def calendar_Later.f (k : Nat) (a0 : Int) (a1 : Int) : Option (Int × Int) := (calendar_isDay.f a0).bind fun t103 => (if t103 = true then (if a1 < (-1199) then (calendar_Later.j0 k a0 a1 true) else (calendar_Later.j0 k a0 a1 (decide (a1 > 1199)))) else (calendar_Later.j0 k a0 a1 true))
theorem calendar_Later.mono_l : ∀ k, (∀ y0 y1 y2, LeO (calendar_Later.j0 k y0 y1 y2) (calendar_Later.j0 (k + 1) y0 y1 y2))
  | 0 => fun _ _ _ r h => by simp [calendar_Later.j0] at h
  | k + 1 => by
    have ih0 := calendar_Later.mono_l k
    · intro y0 y1 y2
      unfold calendar_Later.j0
      repeat' first
      | (with_reducible exact ih0 _ _ _)
      | (with_reducible exact LeO.refl _)
      | (with_reducible exact LeO.none _)
      | (with_reducible refine LeO.ite ?_ ?_)
      | (with_reducible refine LeO.bind ?_ (fun _ => ?_))
      | exact ih0 _ _ _
      | exact LeO.none _
      | refine LeO.ite ?_ ?_
      | refine LeO.bind ?_ (fun _ => ?_)
theorem calendar_Later.mono : ∀ a0 a1 k, LeO (calendar_Later.f k a0 a1) (calendar_Later.f (k + 1) a0 a1) := by
  intro a0 a1 k
  have ih0 := calendar_Later.mono_l k
  unfold calendar_Later.f
  repeat' first
      | (with_reducible exact ih0 _ _ _)
      | (with_reducible exact LeO.refl _)
      | (with_reducible exact LeO.none _)
      | (with_reducible refine LeO.ite ?_ ?_)
      | (with_reducible refine LeO.bind ?_ (fun _ => ?_))
      | exact ih0 _ _ _
      | exact LeO.none _
      | refine LeO.ite ?_ ?_
      | refine LeO.bind ?_ (fun _ => ?_)
set_option maxHeartbeats 8000000 in
set_option maxRecDepth 100000 in
theorem calendar_Later.calls (k : Nat) (a0 : Int) (a1 : Int) (r1 : Int) (r2 : Int) (w : World) (h : calendar_Later.f k a0 a1 = some (r1, r2)) (hTBefore0 : TabBefore w) :
    Calls Tryd.prog 13 #[.int .i64 a0, .int .i64 a1] w fun e w' => e = .returned (.tuple #[.int .i64 r1, .int .i64 r2]) ∧ Below w.heap.size w w' := by
  have hTBefore := Aside0.mk hTBefore0
  clear hTBefore0
  have HB := Aside0.mk (Below.refl w.heap.size w)
  have H : ((calendar_isDay.f a0).bind fun t103 => (if t103 = true then (if a1 < (-1199) then (calendar_Later.j0 k a0 a1 true) else (calendar_Later.j0 k a0 a1 (decide (a1 > 1199)))) else (calendar_Later.j0 k a0 a1 true))) = some (r1, r2) := h
  clear h
  have HC3 := Aside0.mk H
  clear H
  go_enter Tryd.func13, Tryd.ntmps13
  go_upto_region 1 with (fail)
  go_cut [17] (fun v17 wc => ∃ (kq : Nat) (x17_2 : Bool), v17 = .bool x17_2 ∧ Aside0 (calendar_Later.j0 kq a0 a1 x17_2 = some (r1, r2)) ∧ Aside0 (kq ≤ k) ∧ Aside0 (Below w.heap.size w wc))
  case first =>
    have H := HC3.out
    clear HC3
    replace H := Option.bind_eq_some_iff.mp H
    obtain ⟨t103, A40, H⟩ := H
    replace H : (if t103 = true then (if a1 < (-1199) then (calendar_Later.j0 k a0 a1 true) else (calendar_Later.j0 k a0 a1 (decide (a1 > 1199)))) else (calendar_Later.j0 k a0 a1 true)) = some (r1, r2) := H
    have A4 := Aside0.mk A40
    clear A40
    by_cases c5 : t103 = true
    · subst c5
      have H1 : (if a1 < (-1199) then (calendar_Later.j0 k a0 a1 true) else (calendar_Later.j0 k a0 a1 (decide (a1 > 1199)))) = some (r1, r2) := by rw [if_pos rfl] at H; exact H
      clear H
      have H := H1
      clear H1
      by_cases c6 : a1 < (-1199)
      · rw [if_pos c6] at H
        have c6b0 : decide (a1 < (-1199)) = true := decide_eq_true c6
        clear c6
        (first | rw [c6b0] | (simp only [i64_w, i32_w]; rw [c6b0]) | skip)
        have H' := Aside0.mk H
        clear H
        go_wp2_with (first | ((with_reducible refine gate_callee (f := 30) rfl ?_); refine goesL_ (some 8) rfl rfl Tryd.func30 (by kernel_rfl) rfl #[.int .i64 a0] rfl (by (try simp only [List.map_toArray, List.map_cons, List.map_nil]); first | done | rfl | (simp only [List.length_drop, List.length_take]; rfl)) ?_; (with_reducible refine (calendar_isDay.calls a0 true _ A4.out).mono ?_); rintro e w' ⟨rfl, ⟨nd, rfl⟩⟩; refine ⟨_, rfl, ?_⟩))
        go_meet
        case rel => exact ⟨_, (true), (by first | rfl | (simp; done) | (simp [*]; done)), H', ⟨by first | omega | exact Nat.le_refl _⟩, ⟨by repeat (first | (with_reducible first | exact HB.out | apply below_alloc | apply pw_below_drewN | apply below_drew1) | exact HB.out)⟩⟩
      · rw [if_neg c6] at H
        have c6b0 : decide (a1 < (-1199)) = false := decide_eq_false c6
        clear c6
        (first | rw [c6b0] | (simp only [i64_w, i32_w]; rw [c6b0]) | skip)
        have H' := Aside0.mk H
        clear H
        go_wp2_with (first | ((with_reducible refine gate_callee (f := 30) rfl ?_); refine goesL_ (some 8) rfl rfl Tryd.func30 (by kernel_rfl) rfl #[.int .i64 a0] rfl (by (try simp only [List.map_toArray, List.map_cons, List.map_nil]); first | done | rfl | (simp only [List.length_drop, List.length_take]; rfl)) ?_; (with_reducible refine (calendar_isDay.calls a0 true _ A4.out).mono ?_); rintro e w' ⟨rfl, ⟨nd, rfl⟩⟩; refine ⟨_, rfl, ?_⟩))
        go_meet
        case rel => exact ⟨_, (decide (a1 > 1199)), (by first | rfl | (simp; done) | (simp [*]; done)), H', ⟨by first | omega | exact Nat.le_refl _⟩, ⟨by repeat (first | (with_reducible first | exact HB.out | apply below_alloc | apply pw_below_drewN | apply below_drew1) | exact HB.out)⟩⟩
    · replace c5 := Bool.eq_false_iff.mpr c5
      subst c5
      have H1 : (calendar_Later.j0 k a0 a1 true) = some (r1, r2) := by rw [if_neg (show ¬ (false = true) by decide)] at H; exact H
      clear H
      have H := H1
      clear H1
      have H' := Aside0.mk H
      clear H
      go_wp2_with (first | ((with_reducible refine gate_callee (f := 30) rfl ?_); refine goesL_ (some 8) rfl rfl Tryd.func30 (by kernel_rfl) rfl #[.int .i64 a0] rfl (by (try simp only [List.map_toArray, List.map_cons, List.map_nil]); first | done | rfl | (simp only [List.length_drop, List.length_take]; rfl)) ?_; (with_reducible refine (calendar_isDay.calls a0 false _ A4.out).mono ?_); rintro e w' ⟨rfl, ⟨nd, rfl⟩⟩; refine ⟨_, rfl, ?_⟩))
      go_meet
      case rel => exact ⟨_, (true), (by first | rfl | (simp; done) | (simp [*]; done)), H', ⟨by first | omega | exact Nat.le_refl _⟩, ⟨by repeat (first | (with_reducible first | exact HB.out | apply below_alloc | apply pw_below_drewN | apply below_drew1) | exact HB.out)⟩⟩
  case rest =>
    clear HC3
    try clear c1
    try clear p2
    try clear c3
    try clear c5
    try clear c6
    try clear c6b0
    obtain ⟨kq, x17_2, rfl, HA, HJ2, HB⟩ := hcut
    cases kq with
    | zero => exact absurd HA.out (by simp [calendar_Later.j0])
    | succ kj2 =>
      have H := HA.out
      clear HA
      simp only [calendar_Later.j0] at H
      by_cases c7 : x17_2 = true
      · subst c7
        have H1 : (some (0, 21)) = some (r1, r2) := by rw [if_pos rfl] at H; exact H
        clear H
        have H := H1
        clear H1
        simp only [Option.some.injEq, Prod.mk.injEq] at H
        obtain ⟨rfl, rfl⟩ := H
        go_wp2
        go_ret2
        exact ⟨by first | rfl | (simp [errW_none, errW_some] <;> rfl) | (simp [*, errW_none, errW_some] <;> rfl), by repeat (first | (with_reducible first | exact HB.out | apply below_alloc | apply pw_below_drewN | apply below_drew1) | exact HB.out)⟩
      · replace c7 := Bool.eq_false_iff.mpr c7
        subst c7
        have H1 : ((calendar_Month.f a0).bind fun t104 => ((calendar_isMonth.f (wrap64 (t104 + a1))).bind fun t105 => (if t105 = true then ((calendar_First.f (wrap64 (t104 + a1))).bind fun t106 => ((calendar_First.f t104).bind fun t107 => ((calendar_Length.f (wrap64 (t104 + a1))).bind fun t108 => (some (wrap64 (t106 + (mn (wrap64 (a0 - t107)) (wrap64 (t108 - 1)))), 0))))) else (some (0, 21))))) = some (r1, r2) := by rw [if_neg (show ¬ (false = true) by decide)] at H; exact H
        clear H
        have H := H1
        clear H1
        replace H := Option.bind_eq_some_iff.mp H
        obtain ⟨t104, A80, H⟩ := H
        replace H : ((calendar_isMonth.f (wrap64 (t104 + a1))).bind fun t105 => (if t105 = true then ((calendar_First.f (wrap64 (t104 + a1))).bind fun t106 => ((calendar_First.f t104).bind fun t107 => ((calendar_Length.f (wrap64 (t104 + a1))).bind fun t108 => (some (wrap64 (t106 + (mn (wrap64 (a0 - t107)) (wrap64 (t108 - 1)))), 0))))) else (some (0, 21)))) = some (r1, r2) := H
        have A8 := Aside0.mk A80
        clear A80
        replace H := Option.bind_eq_some_iff.mp H
        obtain ⟨t105, A90, H⟩ := H
        replace H : (if t105 = true then ((calendar_First.f (wrap64 (t104 + a1))).bind fun t106 => ((calendar_First.f t104).bind fun t107 => ((calendar_Length.f (wrap64 (t104 + a1))).bind fun t108 => (some (wrap64 (t106 + (mn (wrap64 (a0 - t107)) (wrap64 (t108 - 1)))), 0))))) else (some (0, 21))) = some (r1, r2) := H
        have A9 := Aside0.mk A90
        clear A90
        by_cases c10 : t105 = true
        · subst c10
          have H1 : ((calendar_First.f (wrap64 (t104 + a1))).bind fun t106 => ((calendar_First.f t104).bind fun t107 => ((calendar_Length.f (wrap64 (t104 + a1))).bind fun t108 => (some (wrap64 (t106 + (mn (wrap64 (a0 - t107)) (wrap64 (t108 - 1)))), 0))))) = some (r1, r2) := by rw [if_pos rfl] at H; exact H
          clear H
          have H := H1
          clear H1
          replace H := Option.bind_eq_some_iff.mp H
          obtain ⟨t106, A110, H⟩ := H
          replace H : ((calendar_First.f t104).bind fun t107 => ((calendar_Length.f (wrap64 (t104 + a1))).bind fun t108 => (some (wrap64 (t106 + (mn (wrap64 (a0 - t107)) (wrap64 (t108 - 1)))), 0)))) = some (r1, r2) := H
          have A11 := Aside0.mk A110
          clear A110
          replace H := Option.bind_eq_some_iff.mp H
          obtain ⟨t107, A120, H⟩ := H
          replace H : ((calendar_Length.f (wrap64 (t104 + a1))).bind fun t108 => (some (wrap64 (t106 + (mn (wrap64 (a0 - t107)) (wrap64 (t108 - 1)))), 0))) = some (r1, r2) := H
          have A12 := Aside0.mk A120
          clear A120
          replace H := Option.bind_eq_some_iff.mp H
          obtain ⟨t108, A130, H⟩ := H
          replace H : (some (wrap64 (t106 + (mn (wrap64 (a0 - t107)) (wrap64 (t108 - 1)))), 0)) = some (r1, r2) := H
          have A13 := Aside0.mk A130
          clear A130
          obtain ⟨ji14, hji14⟩ : ∃ j_ : Int, (mn (wrap64 (a0 - t107)) (wrap64 (t108 - 1))) = j_ := ⟨_, rfl⟩
          replace H : (some (wrap64 (t106 + (ji14)), 0)) = some (r1, r2) := by first | (rw [hji14] at H; exact H) | (simp only [hji14] at H ⊢; exact H)
          (try rw [hji14] at A8)
          (try rw [hji14] at A9)
          (try rw [hji14] at A11)
          (try rw [hji14] at A12)
          (try rw [hji14] at A13)
          have hji14_ : (if (wrap64 (t108 - 1)) < (wrap64 (a0 - t107)) then (wrap64 (t108 - 1)) else (wrap64 (a0 - t107))) = ji14 := hji14
          simp only [Option.some.injEq, Prod.mk.injEq] at H
          obtain ⟨rfl, rfl⟩ := H
          go_wp2_with (first | ((with_reducible refine gate_callee (f := 17) rfl ?_); refine goesL_ (some 19) rfl rfl Tryd.func17 (by kernel_rfl) rfl #[.int .i64 a0] rfl (by (try simp only [List.map_toArray, List.map_cons, List.map_nil]); first | done | rfl | (simp only [List.length_drop, List.length_take]; rfl)) ?_; (with_reducible refine (calendar_Month.calls a0 t104 _ A8.out (TabBefore.below hTBefore.out (by repeat (first | exact HB.out | exact Below.refl _ _ | apply below_alloc | apply pw_below_drewN | apply below_drew1 | apply below_drew)))).mono ?_); rintro e w15 ⟨rfl, hb⟩; refine ⟨_, rfl, ?_⟩; have n0_ := Aside0.mk (below_step (by repeat (first | (with_reducible first | exact HB.out | apply below_alloc | apply pw_below_drewN | apply below_drew1) | exact HB.out)) hb); clear HB; have HB := n0_; clear n0_; (try clear hb); (try clear hb2); (try clear hk); (try clear hi)) | ((with_reducible refine gate_callee (f := 31) rfl ?_); refine goesL_ (some 23) rfl rfl Tryd.func31 (by kernel_rfl) rfl #[.int .i64 (wrap64 (t104 + a1))] rfl (by (try simp only [List.map_toArray, List.map_cons, List.map_nil]); first | done | rfl | (simp only [List.length_drop, List.length_take]; rfl)) ?_; (with_reducible refine (calendar_isMonth.calls (wrap64 (t104 + a1)) true _ A9.out).mono ?_); rintro e w' ⟨rfl, ⟨nd, rfl⟩⟩; refine ⟨_, rfl, ?_⟩) | ((with_reducible refine gate_callee (f := 21) rfl ?_); refine goesL_ (some 28) rfl rfl Tryd.func21 (by kernel_rfl) rfl #[.int .i64 (wrap64 (t104 + a1))] rfl (by (try simp only [List.map_toArray, List.map_cons, List.map_nil]); first | done | rfl | (simp only [List.length_drop, List.length_take]; rfl)) ?_; (with_reducible refine (calendar_First.calls (wrap64 (t104 + a1)) t106 _ A11.out (TabBefore.below hTBefore.out (by repeat (first | exact HB.out | exact Below.refl _ _ | apply below_alloc | apply pw_below_drewN | apply below_drew1 | apply below_drew)))).mono ?_); rintro e w16 ⟨rfl, hb⟩; refine ⟨_, rfl, ?_⟩; have n0_ := Aside0.mk (below_step (by repeat (first | (with_reducible first | exact HB.out | apply below_alloc | apply pw_below_drewN | apply below_drew1) | exact HB.out)) hb); clear HB; have HB := n0_; clear n0_; (try clear hb); (try clear hb2); (try clear hk); (try clear hi)) | ((with_reducible refine gate_callee (f := 21) rfl ?_); refine goesL_ (some 31) rfl rfl Tryd.func21 (by kernel_rfl) rfl #[.int .i64 t104] rfl (by (try simp only [List.map_toArray, List.map_cons, List.map_nil]); first | done | rfl | (simp only [List.length_drop, List.length_take]; rfl)) ?_; (with_reducible refine (calendar_First.calls t104 t107 _ A12.out (TabBefore.below hTBefore.out (by repeat (first | exact HB.out | exact Below.refl _ _ | apply below_alloc | apply pw_below_drewN | apply below_drew1 | apply below_drew)))).mono ?_); rintro e w17 ⟨rfl, hb⟩; refine ⟨_, rfl, ?_⟩; have n0_ := Aside0.mk (below_step (by repeat (first | (with_reducible first | exact HB.out | apply below_alloc | apply pw_below_drewN | apply below_drew1) | exact HB.out)) hb); clear HB; have HB := n0_; clear n0_; (try clear hb); (try clear hb2); (try clear hk); (try clear hi)) | ((with_reducible refine gate_callee (f := 23) rfl ?_); refine goesL_ (some 36) rfl rfl Tryd.func23 (by kernel_rfl) rfl #[.int .i64 (wrap64 (t104 + a1))] rfl (by (try simp only [List.map_toArray, List.map_cons, List.map_nil]); first | done | rfl | (simp only [List.length_drop, List.length_take]; rfl)) ?_; (with_reducible refine (calendar_Length.calls (wrap64 (t104 + a1)) t108 _ A13.out (TabBefore.below hTBefore.out (by repeat (first | exact HB.out | exact Below.refl _ _ | apply below_alloc | apply pw_below_drewN | apply below_drew1 | apply below_drew)))).mono ?_); rintro e w18 ⟨rfl, hb⟩; refine ⟨_, rfl, ?_⟩; have n0_ := Aside0.mk (below_step (by repeat (first | (with_reducible first | exact HB.out | apply below_alloc | apply pw_below_drewN | apply below_drew1) | exact HB.out)) hb); clear HB; have HB := n0_; clear n0_; (try clear hb); (try clear hb2); (try clear hk); (try clear hi)))
          go_ret2
          exact ⟨by first | rfl | (simp [errW_none, errW_some] <;> rfl) | (simp only [← hji14]; first | rfl | (simp [errW_none, errW_some] <;> rfl)) | (simp [*, errW_none, errW_some] <;> rfl), by repeat (first | (with_reducible first | exact HB.out | apply below_alloc | apply pw_below_drewN | apply below_drew1) | exact HB.out)⟩
        · replace c10 := Bool.eq_false_iff.mpr c10
          subst c10
          have H1 : (some (0, 21)) = some (r1, r2) := by rw [if_neg (show ¬ (false = true) by decide)] at H; exact H
          clear H
          have H := H1
          clear H1
          simp only [Option.some.injEq, Prod.mk.injEq] at H
          obtain ⟨rfl, rfl⟩ := H
          go_wp2_with (first | ((with_reducible refine gate_callee (f := 17) rfl ?_); refine goesL_ (some 19) rfl rfl Tryd.func17 (by kernel_rfl) rfl #[.int .i64 a0] rfl (by (try simp only [List.map_toArray, List.map_cons, List.map_nil]); first | done | rfl | (simp only [List.length_drop, List.length_take]; rfl)) ?_; (with_reducible refine (calendar_Month.calls a0 t104 _ A8.out (TabBefore.below hTBefore.out (by repeat (first | exact HB.out | exact Below.refl _ _ | apply below_alloc | apply pw_below_drewN | apply below_drew1 | apply below_drew)))).mono ?_); rintro e w19 ⟨rfl, hb⟩; refine ⟨_, rfl, ?_⟩; have n0_ := Aside0.mk (below_step (by repeat (first | (with_reducible first | exact HB.out | apply below_alloc | apply pw_below_drewN | apply below_drew1) | exact HB.out)) hb); clear HB; have HB := n0_; clear n0_; (try clear hb); (try clear hb2); (try clear hk); (try clear hi)) | ((with_reducible refine gate_callee (f := 31) rfl ?_); refine goesL_ (some 23) rfl rfl Tryd.func31 (by kernel_rfl) rfl #[.int .i64 (wrap64 (t104 + a1))] rfl (by (try simp only [List.map_toArray, List.map_cons, List.map_nil]); first | done | rfl | (simp only [List.length_drop, List.length_take]; rfl)) ?_; (with_reducible refine (calendar_isMonth.calls (wrap64 (t104 + a1)) false _ A9.out).mono ?_); rintro e w' ⟨rfl, ⟨nd, rfl⟩⟩; refine ⟨_, rfl, ?_⟩))
          go_ret2
          exact ⟨by first | rfl | (simp [errW_none, errW_some] <;> rfl) | (simp [*, errW_none, errW_some] <;> rfl), by repeat (first | (with_reducible first | exact HB.out | apply below_alloc | apply pw_below_drewN | apply below_drew1) | exact HB.out)⟩

/-! ### calendar_Weekday: function 15 -/
def calendar_Weekday.f (a0 : Int) : Option (Int) := (calendar_isDay.f a0).bind fun t109 => (if t109 = true then (some (wrap64 ((Int.tmod (wrap64 (a0 + 5)) 7) + 1))) else (some 0))
set_option maxHeartbeats 8000000 in
set_option maxRecDepth 100000 in
theorem calendar_Weekday.calls (a0 : Int) (r : Int) (w : World) (h : calendar_Weekday.f a0 = some r) :
    Calls Tryd.prog 15 #[.int .i64 a0] w fun e w' => e = .returned (.int .i64 r) ∧ Drawn0 w w' := by
  have H : ((calendar_isDay.f a0).bind fun t109 => (if t109 = true then (some (wrap64 ((Int.tmod (wrap64 (a0 + 5)) 7) + 1))) else (some 0))) = some r := h
  clear h
  replace H := Option.bind_eq_some_iff.mp H
  obtain ⟨t109, A20, H⟩ := H
  replace H : (if t109 = true then (some (wrap64 ((Int.tmod (wrap64 (a0 + 5)) 7) + 1))) else (some 0)) = some r := H
  have A2 := Aside0.mk A20
  clear A20
  by_cases c3 : t109 = true
  · subst c3
    have H1 : (some (wrap64 ((Int.tmod (wrap64 (a0 + 5)) 7) + 1))) = some r := by rw [if_pos rfl] at H; exact H
    clear H
    have H := H1
    clear H1
    obtain rfl := Option.some.inj H
    go_enter Tryd.func15, Tryd.ntmps15
    go_wp2_with (first | ((with_reducible refine gate_callee (f := 30) rfl ?_); refine goesL_ (some 4) rfl rfl Tryd.func30 (by kernel_rfl) rfl #[.int .i64 a0] rfl (by (try simp only [List.map_toArray, List.map_cons, List.map_nil]); first | done | rfl | (simp only [List.length_drop, List.length_take]; rfl)) ?_; (with_reducible refine (calendar_isDay.calls a0 true _ A2.out).mono ?_); rintro e w' ⟨rfl, ⟨nd, rfl⟩⟩; refine ⟨_, rfl, ?_⟩))
    go_ret
    exact ⟨by first | rfl | (simp; done) | (simp [*]; done), by repeat (first | exact Drawn0.refl _ | apply Drawn0.step)⟩
  · replace c3 := Bool.eq_false_iff.mpr c3
    subst c3
    have H1 : (some 0) = some r := by rw [if_neg (show ¬ (false = true) by decide)] at H; exact H
    clear H
    have H := H1
    clear H1
    obtain rfl := Option.some.inj H
    go_enter Tryd.func15, Tryd.ntmps15
    go_wp2_with (first | ((with_reducible refine gate_callee (f := 30) rfl ?_); refine goesL_ (some 4) rfl rfl Tryd.func30 (by kernel_rfl) rfl #[.int .i64 a0] rfl (by (try simp only [List.map_toArray, List.map_cons, List.map_nil]); first | done | rfl | (simp only [List.length_drop, List.length_take]; rfl)) ?_; (with_reducible refine (calendar_isDay.calls a0 false _ A2.out).mono ?_); rintro e w' ⟨rfl, ⟨nd, rfl⟩⟩; refine ⟨_, rfl, ?_⟩))
    go_ret
    exact ⟨by first | rfl | (simp; done) | (simp [*]; done), by repeat (first | exact Drawn0.refl _ | apply Drawn0.step)⟩

/-! ### calendar_digits: function 32 -/
def calendar_digits.l0 : Nat → Int → Int → List Int → Int → Int → Option (ByteArray)
  | 0, _, _, _, _, _ => none
  | k + 1, x0, x1, x5, x9, x10 => if x10 < x9 then (if 0 ≤ (wrap64 ((wrap64 (x1 - 1)) - x10)) then (if (wrap64 ((wrap64 (x1 - 1)) - x10)) < (x5.length : Int) then (calendar_digits.l0 k (wrap64 (Int.tdiv x0 10)) x1 (x5.set ((wrap64 ((wrap64 (x1 - 1)) - x10)) : Int).toNat ((wrap64 (48 + (Int.tmod x0 10))) % 256)) x9 (wrap64 (x10 + 1))) else (none)) else (none)) else (some (strOfNums x5))
def calendar_digits.f (k : Nat) (a0 : Int) (a1 : Int) : Option (ByteArray) := if 0 ≤ a1 then (if (a1 : Int).toNat ≤ 281474976710656 then (calendar_digits.l0 k a0 a1 (List.replicate (a1 : Int).toNat 0) a1 0) else (none)) else (none)
theorem calendar_digits.mono_l : ∀ k, (∀ y0 y1 y2 y3 y4, LeO (calendar_digits.l0 k y0 y1 y2 y3 y4) (calendar_digits.l0 (k + 1) y0 y1 y2 y3 y4))
  | 0 => fun _ _ _ _ _ r h => by simp [calendar_digits.l0] at h
  | k + 1 => by
    have ih0 := calendar_digits.mono_l k
    · intro y0 y1 y2 y3 y4
      unfold calendar_digits.l0
      repeat' first
      | (with_reducible exact ih0 _ _ _ _ _)
      | (with_reducible exact LeO.refl _)
      | (with_reducible exact LeO.none _)
      | (with_reducible refine LeO.ite ?_ ?_)
      | (with_reducible refine LeO.bind ?_ (fun _ => ?_))
      | exact ih0 _ _ _ _ _
      | exact LeO.none _
      | refine LeO.ite ?_ ?_
      | refine LeO.bind ?_ (fun _ => ?_)
theorem calendar_digits.mono : ∀ a0 a1 k, LeO (calendar_digits.f k a0 a1) (calendar_digits.f (k + 1) a0 a1) := by
  intro a0 a1 k
  have ih0 := calendar_digits.mono_l k
  unfold calendar_digits.f
  repeat' first
      | (with_reducible exact ih0 _ _ _ _ _)
      | (with_reducible exact LeO.refl _)
      | (with_reducible exact LeO.none _)
      | (with_reducible refine LeO.ite ?_ ?_)
      | (with_reducible refine LeO.bind ?_ (fun _ => ?_))
      | exact ih0 _ _ _ _ _
      | exact LeO.none _
      | refine LeO.ite ?_ ?_
      | refine LeO.bind ?_ (fun _ => ?_)
set_option maxHeartbeats 8000000 in
set_option maxRecDepth 100000 in
theorem calendar_digits.calls (k : Nat) (a0 : Int) (a1 : Int) (r : ByteArray) (w : World) (h : calendar_digits.f k a0 a1 = some r) :
    Calls Tryd.prog 32 #[.int .i64 a0, .int .i64 a1] w fun e w' => e = .returned (.string r) ∧ Below w.heap.size w w' := by
  have HB := Aside0.mk (Below.refl w.heap.size w)
  have H : (if 0 ≤ a1 then (if (a1 : Int).toNat ≤ 281474976710656 then (calendar_digits.l0 k a0 a1 (List.replicate (a1 : Int).toNat 0) a1 0) else (none)) else (none)) = some r := h
  clear h
  by_cases c3 : 0 ≤ a1
  · rw [if_pos c3] at H
    have c3b0 := eq_true c3
    have c3b1 : decide (0 ≤ a1) = true := decide_eq_true c3
    clear c3
    by_cases c4 : (a1 : Int).toNat ≤ 281474976710656
    · rw [if_pos c4] at H
      have c4b0 := eq_true c4
      have c4b1 : decide ((a1 : Int).toNat ≤ 281474976710656) = true := decide_eq_true c4
      clear c4
      obtain ⟨y110, hy110⟩ : ∃ y_ : List Int, y_ = (List.replicate (a1 : Int).toNat 0) := ⟨_, rfl⟩
      replace H : (calendar_digits.l0 k a0 a1 y110 a1 0) = some r := by first | (rw [hy110]; with_reducible exact H) | (have H2_ := (Option.bind_some _ _).symm.trans H; rw [hy110]; with_reducible exact H2_) | (have H2_ := (Option.bind_some _ _).symm.trans H; with_reducible exact H2_) | with_reducible exact H | (rw [hy110]; exact H) | exact H
      have Ny110 := Aside0.mk hy110
      clear hy110
      have H' := Aside0.mk H
      clear H
      go_enter Tryd.func32, Tryd.ntmps32
      go_wp2_with (first | ((with_reducible refine gate_dst (N := 8) rfl ?_); refine Kd.R_make (Kd.int .u8) _ 5 rfl (N := 8) rfl 41 _ _ rfl a1 rfl rfl Tryd.underlying41 (.int .u8 0) 1 info5 rfl (by decide) (by omega) 0 (ok := fun _ => True) (okp := fun _ => True) rfl (fun _ hk => hk) trivial (of_decide_eq_true (by first | (with_reducible assumption) | assumption)) (Nat.le_trans (Nat.mul_le_mul_right _ (of_decide_eq_true (by first | (with_reducible assumption) | assumption) : a1.toNat ≤ 281474976710656)) (by omega)) (Below.refl _ _) (Nat.le_refl _) ?_; intro v111 w5 ho6 hb hg_ hnew_; clear hg_ hnew_; (first | rw [← Ny110.out] at ho6 | (simp only [Int.reduceToNat] at ho6; rw [← Ny110.out] at ho6)); have n0_ := Aside0.mk (Kd.R_lower ho6 (below_size (by repeat (first | (with_reducible first | exact HB.out | apply below_alloc | apply pw_below_drewN | apply below_drew1) | exact HB.out)))); have n1_ := Aside0.mk (below_step (by repeat (first | (with_reducible first | exact HB.out | apply below_alloc | apply pw_below_drewN | apply below_drew1) | exact HB.out)) hb); clear HB; have HO112 := n0_; have HB := n1_; clear n0_ n1_; clear hb ho6))
      go_loopg [0, 10] k (fun kq v0 v10 w' => ∃ (x0_1 : Int) (x5_1 : List Int) (x10_1 : Int), v0 = .int .i64 x0_1 ∧ v10 = .int .i64 x10_1 ∧ Aside0 (calendar_digits.l0 kq x0_1 a1 x5_1 a1 x10_1 = some r) ∧ Aside0 (kq ≤ k) ∧ Aside0 (Kd.R (Kd.int .u8) 5 w' w.heap.size (fun _ => True) v111 x5_1) ∧ Aside0 (Below w.heap.size w w'))
      case atStart => exact ⟨(a0), (y110), (0), (by first | rfl | (simp; done) | (simp [*]; done)), (by first | rfl | (simp; done) | (simp [*]; done)), H', ⟨Nat.le_refl _⟩, ⟨by (with_reducible repeat (first | apply Kd.R_alloc | apply Kd.R_drewN | apply Kd.R_drew)); exact HO112.out⟩, ⟨by repeat (first | (with_reducible first | exact HB.out | apply below_alloc | apply pw_below_drewN | apply below_drew1) | exact HB.out)⟩⟩
      case round =>
        clear H'
        try clear p2
        try clear c3
        try clear c3b0
        try clear c3b1
        try clear c4
        try clear c4b0
        try clear c4b1
        obtain ⟨x0_1, x5_1, x10_1, rfl, rfl, HA, HK1, HO_5, HB⟩ := hrel
        cases gk with
        | zero => exact absurd HA.out (by simp [calendar_digits.l0])
        | succ k1 =>
          have H := HA.out
          clear HA
          simp only [calendar_digits.l0] at H
          by_cases c7 : x10_1 < a1
          · rw [if_pos c7] at H
            have c7b0 : decide (x10_1 < a1) = true := decide_eq_true c7
            clear c7
            obtain ⟨ji8, hji8⟩ : ∃ j_ : Int, (wrap64 ((wrap64 (a1 - 1)) - x10_1)) = j_ := ⟨_, rfl⟩
            replace H : (if 0 ≤ (ji8) then (if (ji8) < (x5_1.length : Int) then (calendar_digits.l0 k1 (wrap64 (Int.tdiv x0_1 10)) a1 (x5_1.set ((ji8) : Int).toNat ((wrap64 (48 + (Int.tmod x0_1 10))) % 256)) a1 (wrap64 (x10_1 + 1))) else (none)) else (none)) = some r := by first | (rw [hji8] at H; exact H) | (simp only [hji8] at H ⊢; exact H)
            have hji8w : (IntKind.i64.wrap ((wrap64 (a1 - 1)) - x10_1)) = ji8 := (i64_w _).trans hji8
            by_cases c9 : 0 ≤ (ji8)
            · rw [if_pos c9] at H
              have c9b0 : decide (0 ≤ (ji8)) = true := decide_eq_true c9
              clear c9
              by_cases c10 : (ji8) < (x5_1.length : Int)
              · rw [if_pos c10] at H
                have c10b0 : decide ((ji8) < (x5_1.length : Int)) = true := decide_eq_true c10
                clear c10
                obtain ⟨y113, hy113⟩ : ∃ y_ : List Int, y_ = (x5_1.set ((ji8) : Int).toNat ((wrap64 (48 + (Int.tmod x0_1 10))) % 256)) := ⟨_, rfl⟩
                replace H : (calendar_digits.l0 k1 (wrap64 (Int.tdiv x0_1 10)) a1 y113 a1 (wrap64 (x10_1 + 1))) = some r := by first | (rw [hy113]; with_reducible exact H) | (have H2_ := (Option.bind_some _ _).symm.trans H; rw [hy113]; with_reducible exact H2_) | (have H2_ := (Option.bind_some _ _).symm.trans H; with_reducible exact H2_) | with_reducible exact H | (rw [hy113]; exact H) | exact H
                have Ny113 := Aside0.mk hy113
                clear hy113
                have H' := Aside0.mk H
                clear H
                have p11 : 0 ≤ ((ji8) : Int) := of_decide_eq_true (by first | (with_reducible assumption) | assumption)
                have q11 : ((ji8) : Int) < ((x5_1.length : Int) : Int) := of_decide_eq_true (by first | (with_reducible assumption) | assumption)
                obtain ⟨go11, co11, eo11, gb11, gl11, cl11, HG11⟩ := Kd.R_form HO_5.out (by omega)
                (first | cases eo11 | (injection eo11 with ea_ en_ ec_; (first | subst ea_ | (injection ea_ with ea_; subst ea_)); subst ec_; clear en_))
                have GB11 := Aside0.mk gb11
                have GG11 := Aside0.mk HG11
                clear gb11 gl11 HG11
                obtain ⟨hx11_0, hf11_0⟩ := Kd.R_celln 0 HO_5.out ((ji8) : Int) p11 q11
                replace p11 := eq_true p11
                replace q11 := eq_true q11
                have HP12 := Kd.R_putg HO_5.out ((ji8) : Int) ((wrap64 (48 + (Int.tmod x0_1 10))) % 256)
                go_wp2_with (first | ((with_reducible refine gate_store (t := 5) (p := 22) rfl ?_); refine store_event (t := 5) (p := 22) (v := ?vo_w13) (w1 := (wr.setCell ⟨go11, ((ji8) : Int).toNat, none⟩ (.int .u8 ((wrap64 (48 + (Int.tmod x0_1 10))) % 256)))) ?hg ?ho ?hn ?hr ?_; (case ho => rfl); (case hg => rfl); (case hn => rfl); (case hr => first | (go_simp; done) | (go_simp; rfl)); intro w13 hw; have hg : wr.grownBy w13 (some go11) := (by rw [hw]; exact HP12.2); have hp_ : Kd.R (Kd.int .u8) 5 w13 w.heap.size (fun _ => True) (.slice (some ⟨go11, 0, none⟩) x5_1.length co11) y113 := (by rw [hw, Ny113.out]; exact HP12.1); clear HP12; have n0_ := Aside0.mk (hp_); have n1_ := Aside0.mk ((by rw [hw]; exact below_set (HB.out) GB11.out : Below w.heap.size w w13)); clear HO_5; clear HB; have HO_5 := n0_; have HB := n1_; clear n0_ n1_; clear hg hw hp_))
                go_roundg k1
                case measure => have := HK1.out; omega
                case rel => exact ⟨(wrap64 (Int.tdiv x0_1 10)), (y113), (wrap64 (x10_1 + 1)), (by first | rfl | (simp; done) | (simp [*]; done)), (by first | rfl | (simp; done) | (simp [*]; done)), H', ⟨by have := HK1.out; omega⟩, ⟨by (with_reducible repeat (first | apply Kd.R_alloc | apply Kd.R_drewN | apply Kd.R_drew)); exact HO_5.out⟩, ⟨by repeat (first | (with_reducible first | exact HB.out | apply below_alloc | apply pw_below_drewN | apply below_drew1) | exact HB.out)⟩⟩
              · rw [if_neg c10] at H
                exact absurd H (by simp)
            · rw [if_neg c9] at H
              exact absurd H (by simp)
          · rw [if_neg c7] at H
            have c7b0 : decide (x10_1 < a1) = false := decide_eq_false c7
            clear c7
            obtain rfl := Option.some.inj H
            have hcv14 := own_string (P := Tryd.prog) Tryd.underlying41 Tryd.underlying5 Tryd.underlying9 (Kd.own_of_R HO_5.out)
            go_wp2
            go_ret
            exact ⟨by first | rfl | (simp [errW_none, errW_some] <;> rfl) | (simp [*, errW_none, errW_some] <;> rfl), by repeat (first | (with_reducible first | exact HB.out | apply below_alloc | apply pw_below_drewN | apply below_drew1) | exact HB.out)⟩
    · rw [if_neg c4] at H
      exact absurd H (by simp)
  · rw [if_neg c3] at H
    exact absurd H (by simp)

/-! ### calendar_Text: function 19 -/
def calendar_Text.f (k : Nat) (a0 : Int) : Option (ByteArray) := (calendar_isDay.f a0).bind fun t114 => (if t114 = true then ((calendar_Date.f a0).bind fun bt115 => ((calendar_digits.f k bt115.1 4).bind fun t118 => (if t118.size + 1 ≤ 9223372036854775807 then ((calendar_digits.f k bt115.2.1 2).bind fun t119 => (if t118.size + 1 + t119.size ≤ 9223372036854775807 then (if t118.size + 1 + t119.size + 1 ≤ 9223372036854775807 then ((calendar_digits.f k bt115.2.2 2).bind fun t120 => (if t118.size + 1 + t119.size + 1 + t120.size ≤ 9223372036854775807 then (some ((((t118 ++ (⟨#[45]⟩ : ByteArray)) ++ t119) ++ (⟨#[45]⟩ : ByteArray)) ++ t120)) else (none))) else (none)) else (none))) else (none)))) else (some (⟨#[]⟩ : ByteArray)))
theorem calendar_Text.mono : ∀ a0 k, LeO (calendar_Text.f k a0) (calendar_Text.f (k + 1) a0) := by
  intro a0 k
  unfold calendar_Text.f
  repeat' first
      | (with_reducible exact calendar_digits.mono _ _ _)
      | (with_reducible exact LeO.refl _)
      | (with_reducible exact LeO.none _)
      | (with_reducible refine LeO.ite ?_ ?_)
      | (with_reducible refine LeO.bind ?_ (fun _ => ?_))
      | exact calendar_digits.mono _ _ _
      | exact LeO.none _
      | refine LeO.ite ?_ ?_
      | refine LeO.bind ?_ (fun _ => ?_)
set_option maxHeartbeats 8000000 in
set_option maxRecDepth 100000 in
theorem calendar_Text.calls (k : Nat) (a0 : Int) (r : ByteArray) (w : World) (h : calendar_Text.f k a0 = some r) (hTBefore0 : TabBefore w) :
    Calls Tryd.prog 19 #[.int .i64 a0] w fun e w' => e = .returned (.string r) ∧ Below w.heap.size w w' := by
  have hTBefore := Aside0.mk hTBefore0
  clear hTBefore0
  have HB := Aside0.mk (Below.refl w.heap.size w)
  have H : ((calendar_isDay.f a0).bind fun t114 => (if t114 = true then ((calendar_Date.f a0).bind fun bt115 => ((calendar_digits.f k bt115.1 4).bind fun t118 => (if t118.size + 1 ≤ 9223372036854775807 then ((calendar_digits.f k bt115.2.1 2).bind fun t119 => (if t118.size + 1 + t119.size ≤ 9223372036854775807 then (if t118.size + 1 + t119.size + 1 ≤ 9223372036854775807 then ((calendar_digits.f k bt115.2.2 2).bind fun t120 => (if t118.size + 1 + t119.size + 1 + t120.size ≤ 9223372036854775807 then (some ((((t118 ++ (⟨#[45]⟩ : ByteArray)) ++ t119) ++ (⟨#[45]⟩ : ByteArray)) ++ t120)) else (none))) else (none)) else (none))) else (none)))) else (some (⟨#[]⟩ : ByteArray)))) = some r := h
  clear h
  replace H := Option.bind_eq_some_iff.mp H
  obtain ⟨t114, A20, H⟩ := H
  replace H : (if t114 = true then ((calendar_Date.f a0).bind fun bt115 => ((calendar_digits.f k bt115.1 4).bind fun t118 => (if t118.size + 1 ≤ 9223372036854775807 then ((calendar_digits.f k bt115.2.1 2).bind fun t119 => (if t118.size + 1 + t119.size ≤ 9223372036854775807 then (if t118.size + 1 + t119.size + 1 ≤ 9223372036854775807 then ((calendar_digits.f k bt115.2.2 2).bind fun t120 => (if t118.size + 1 + t119.size + 1 + t120.size ≤ 9223372036854775807 then (some ((((t118 ++ (⟨#[45]⟩ : ByteArray)) ++ t119) ++ (⟨#[45]⟩ : ByteArray)) ++ t120)) else (none))) else (none)) else (none))) else (none)))) else (some (⟨#[]⟩ : ByteArray))) = some r := H
  have A2 := Aside0.mk A20
  clear A20
  by_cases c3 : t114 = true
  · subst c3
    have H1 : ((calendar_Date.f a0).bind fun bt115 => ((calendar_digits.f k bt115.1 4).bind fun t118 => (if t118.size + 1 ≤ 9223372036854775807 then ((calendar_digits.f k bt115.2.1 2).bind fun t119 => (if t118.size + 1 + t119.size ≤ 9223372036854775807 then (if t118.size + 1 + t119.size + 1 ≤ 9223372036854775807 then ((calendar_digits.f k bt115.2.2 2).bind fun t120 => (if t118.size + 1 + t119.size + 1 + t120.size ≤ 9223372036854775807 then (some ((((t118 ++ (⟨#[45]⟩ : ByteArray)) ++ t119) ++ (⟨#[45]⟩ : ByteArray)) ++ t120)) else (none))) else (none)) else (none))) else (none)))) = some r := by rw [if_pos rfl] at H; exact H
    clear H
    have H := H1
    clear H1
    replace H := Option.bind_eq_some_iff.mp H
    obtain ⟨⟨t115, t116, t117⟩, A40, H⟩ := H
    replace H : ((calendar_digits.f k t115 4).bind fun t118 => (if t118.size + 1 ≤ 9223372036854775807 then ((calendar_digits.f k t116 2).bind fun t119 => (if t118.size + 1 + t119.size ≤ 9223372036854775807 then (if t118.size + 1 + t119.size + 1 ≤ 9223372036854775807 then ((calendar_digits.f k t117 2).bind fun t120 => (if t118.size + 1 + t119.size + 1 + t120.size ≤ 9223372036854775807 then (some ((((t118 ++ (⟨#[45]⟩ : ByteArray)) ++ t119) ++ (⟨#[45]⟩ : ByteArray)) ++ t120)) else (none))) else (none)) else (none))) else (none))) = some r := H
    have A4 := Aside0.mk A40
    clear A40
    replace H := Option.bind_eq_some_iff.mp H
    obtain ⟨t118, A50, H⟩ := H
    replace H : (if t118.size + 1 ≤ 9223372036854775807 then ((calendar_digits.f k t116 2).bind fun t119 => (if t118.size + 1 + t119.size ≤ 9223372036854775807 then (if t118.size + 1 + t119.size + 1 ≤ 9223372036854775807 then ((calendar_digits.f k t117 2).bind fun t120 => (if t118.size + 1 + t119.size + 1 + t120.size ≤ 9223372036854775807 then (some ((((t118 ++ (⟨#[45]⟩ : ByteArray)) ++ t119) ++ (⟨#[45]⟩ : ByteArray)) ++ t120)) else (none))) else (none)) else (none))) else (none)) = some r := H
    have A5 := Aside0.mk A50
    clear A50
    by_cases c6 : t118.size + 1 ≤ 9223372036854775807
    · rw [if_pos c6] at H
      have c6b0 := eq_true c6
      have c6b1 : decide (t118.size + 1 ≤ 9223372036854775807) = true := decide_eq_true c6
      try have c6b2 : (9223372036854775807 < t118.size + 1) = False := eq_false (Nat.not_lt.2 c6)
      replace H := Option.bind_eq_some_iff.mp H
      obtain ⟨t119, A70, H⟩ := H
      replace H : (if t118.size + 1 + t119.size ≤ 9223372036854775807 then (if t118.size + 1 + t119.size + 1 ≤ 9223372036854775807 then ((calendar_digits.f k t117 2).bind fun t120 => (if t118.size + 1 + t119.size + 1 + t120.size ≤ 9223372036854775807 then (some ((((t118 ++ (⟨#[45]⟩ : ByteArray)) ++ t119) ++ (⟨#[45]⟩ : ByteArray)) ++ t120)) else (none))) else (none)) else (none)) = some r := H
      have A7 := Aside0.mk A70
      clear A70
      by_cases c8 : t118.size + 1 + t119.size ≤ 9223372036854775807
      · rw [if_pos c8] at H
        have c8b0 := eq_true c8
        have c8b1 : decide (t118.size + 1 + t119.size ≤ 9223372036854775807) = true := decide_eq_true c8
        try have c8b2 : (9223372036854775807 < t118.size + 1 + t119.size) = False := eq_false (Nat.not_lt.2 c8)
        by_cases c9 : t118.size + 1 + t119.size + 1 ≤ 9223372036854775807
        · rw [if_pos c9] at H
          have c9b0 := eq_true c9
          have c9b1 : decide (t118.size + 1 + t119.size + 1 ≤ 9223372036854775807) = true := decide_eq_true c9
          try have c9b2 : (9223372036854775807 < t118.size + 1 + t119.size + 1) = False := eq_false (Nat.not_lt.2 c9)
          replace H := Option.bind_eq_some_iff.mp H
          obtain ⟨t120, A100, H⟩ := H
          replace H : (if t118.size + 1 + t119.size + 1 + t120.size ≤ 9223372036854775807 then (some ((((t118 ++ (⟨#[45]⟩ : ByteArray)) ++ t119) ++ (⟨#[45]⟩ : ByteArray)) ++ t120)) else (none)) = some r := H
          have A10 := Aside0.mk A100
          clear A100
          by_cases c11 : t118.size + 1 + t119.size + 1 + t120.size ≤ 9223372036854775807
          · rw [if_pos c11] at H
            have c11b0 := eq_true c11
            have c11b1 : decide (t118.size + 1 + t119.size + 1 + t120.size ≤ 9223372036854775807) = true := decide_eq_true c11
            try have c11b2 : (9223372036854775807 < t118.size + 1 + t119.size + 1 + t120.size) = False := eq_false (Nat.not_lt.2 c11)
            obtain rfl := Option.some.inj H
            go_enter Tryd.func19, Tryd.ntmps19
            go_wp2_with (first | ((with_reducible refine gate_callee (f := 30) rfl ?_); refine goesL_ (some 7) rfl rfl Tryd.func30 (by kernel_rfl) rfl #[.int .i64 a0] rfl (by (try simp only [List.map_toArray, List.map_cons, List.map_nil]); first | done | rfl | (simp only [List.length_drop, List.length_take]; rfl)) ?_; (with_reducible refine (calendar_isDay.calls a0 true _ A2.out).mono ?_); rintro e w' ⟨rfl, ⟨nd, rfl⟩⟩; refine ⟨_, rfl, ?_⟩) | ((with_reducible refine gate_callee (f := 11) rfl ?_); refine goesL_ (some 11) rfl rfl Tryd.func11 (by kernel_rfl) rfl #[.int .i64 a0] rfl (by (try simp only [List.map_toArray, List.map_cons, List.map_nil]); first | done | rfl | (simp only [List.length_drop, List.length_take]; rfl)) ?_; (with_reducible refine (calendar_Date.calls a0 t115 t116 t117 _ A4.out (TabBefore.below hTBefore.out (by repeat (first | exact HB.out | exact Below.refl _ _ | apply below_alloc | apply pw_below_drewN | apply below_drew1 | apply below_drew)))).mono ?_); rintro e w12 ⟨rfl, hb⟩; refine ⟨_, rfl, ?_⟩; have n0_ := Aside0.mk (below_step (by repeat (first | (with_reducible first | exact HB.out | apply below_alloc | apply pw_below_drewN | apply below_drew1) | exact HB.out)) hb); clear HB; have HB := n0_; clear n0_; (try clear hb); (try clear hb2); (try clear hk); (try clear hi)) | ((with_reducible refine gate_callee (f := 32) rfl ?_); refine goesL_ (some 16) rfl rfl Tryd.func32 (by kernel_rfl) rfl #[.int .i64 t115, .int .i64 4] rfl (by (try simp only [List.map_toArray, List.map_cons, List.map_nil]); first | done | rfl | (simp only [List.length_drop, List.length_take]; rfl)) ?_; (with_reducible refine (calendar_digits.calls k t115 4 t118 _ A5.out).mono ?_); rintro e w13 ⟨rfl, hb⟩; refine ⟨_, rfl, ?_⟩; have n0_ := Aside0.mk (below_step (by repeat (first | (with_reducible first | exact HB.out | apply below_alloc | apply pw_below_drewN | apply below_drew1) | exact HB.out)) hb); clear HB; have HB := n0_; clear n0_; (try clear hb); (try clear hb2); (try clear hk); (try clear hi)) | ((with_reducible refine gate_callee (f := 32) rfl ?_); refine goesL_ (some 19) rfl rfl Tryd.func32 (by kernel_rfl) rfl #[.int .i64 t116, .int .i64 2] rfl (by (try simp only [List.map_toArray, List.map_cons, List.map_nil]); first | done | rfl | (simp only [List.length_drop, List.length_take]; rfl)) ?_; (with_reducible refine (calendar_digits.calls k t116 2 t119 _ A7.out).mono ?_); rintro e w14 ⟨rfl, hb⟩; refine ⟨_, rfl, ?_⟩; have n0_ := Aside0.mk (below_step (by repeat (first | (with_reducible first | exact HB.out | apply below_alloc | apply pw_below_drewN | apply below_drew1) | exact HB.out)) hb); clear HB; have HB := n0_; clear n0_; (try clear hb); (try clear hb2); (try clear hk); (try clear hi)) | ((with_reducible refine gate_callee (f := 32) rfl ?_); refine goesL_ (some 23) rfl rfl Tryd.func32 (by kernel_rfl) rfl #[.int .i64 t117, .int .i64 2] rfl (by (try simp only [List.map_toArray, List.map_cons, List.map_nil]); first | done | rfl | (simp only [List.length_drop, List.length_take]; rfl)) ?_; (with_reducible refine (calendar_digits.calls k t117 2 t120 _ A10.out).mono ?_); rintro e w15 ⟨rfl, hb⟩; refine ⟨_, rfl, ?_⟩; have n0_ := Aside0.mk (below_step (by repeat (first | (with_reducible first | exact HB.out | apply below_alloc | apply pw_below_drewN | apply below_drew1) | exact HB.out)) hb); clear HB; have HB := n0_; clear n0_; (try clear hb); (try clear hb2); (try clear hk); (try clear hi)))
            go_ret
            exact ⟨by first | rfl | (simp [errW_none, errW_some] <;> rfl) | (simp [*, errW_none, errW_some] <;> rfl), by repeat (first | (with_reducible first | exact HB.out | apply below_alloc | apply pw_below_drewN | apply below_drew1) | exact HB.out)⟩
          · rw [if_neg c11] at H
            exact absurd H (by simp)
        · rw [if_neg c9] at H
          exact absurd H (by simp)
      · rw [if_neg c8] at H
        exact absurd H (by simp)
    · rw [if_neg c6] at H
      exact absurd H (by simp)
  · replace c3 := Bool.eq_false_iff.mpr c3
    subst c3
    have H1 : (some (⟨#[]⟩ : ByteArray)) = some r := by rw [if_neg (show ¬ (false = true) by decide)] at H; exact H
    clear H
    have H := H1
    clear H1
    obtain rfl := Option.some.inj H
    go_enter Tryd.func19, Tryd.ntmps19
    go_wp2_with (first | ((with_reducible refine gate_callee (f := 30) rfl ?_); refine goesL_ (some 7) rfl rfl Tryd.func30 (by kernel_rfl) rfl #[.int .i64 a0] rfl (by (try simp only [List.map_toArray, List.map_cons, List.map_nil]); first | done | rfl | (simp only [List.length_drop, List.length_take]; rfl)) ?_; (with_reducible refine (calendar_isDay.calls a0 false _ A2.out).mono ?_); rintro e w' ⟨rfl, ⟨nd, rfl⟩⟩; refine ⟨_, rfl, ?_⟩))
    go_ret
    exact ⟨by first | rfl | (simp [errW_none, errW_some] <;> rfl) | (simp [*, errW_none, errW_some] <;> rfl), by repeat (first | (with_reducible first | exact HB.out | apply below_alloc | apply pw_below_drewN | apply below_drew1) | exact HB.out)⟩

-- GIVEN BY A TEXT OF ITS OWN: function 25 (calendar_Day)

-- GIVEN BY A TEXT OF ITS OWN: function 27 (calendar_Parse)

end Go.Proofs.YthakhcnpiobpgaaDoor.PAll
