-- Written by myprint.py over the kit's print.py (a printed text of this session's own make).
import Derived.Test.YthakhcnpiobpgaaDoorPAllx0
import Derived.Test.YthakhcnpiobpgaaDoorPAllx2
namespace Go.Proofs.YthakhcnpiobpgaaDoor.PAll
open Go.Proofs.YthakhcnpiobpgaaDoor.Stub Go.Proofs.YthakhcnpiobpgaaDoor.CalA
open Go.RowKit Go.Proofs.YthakhcnpiobpgaaDoorW.PrintWords Go.Proofs.YthakhcnpiobpgaaDoorW.PrintLast Go.Proofs.YthakhcnpiobpgaaDoorW.PrintMore
attribute [local go_sem] max2_int min2_int max_two min_two max_three min_three max_four min_four   -- for this text's walks alone
set_option linter.unusedVariables false
set_option linter.unusedSimpArgs false

/-! ### wageofficeref02_Date: function 12 -/
mutual
def wageofficeref02_Date.j0 : Nat → Int → Bool → Option (Int × Int × Int)
  | 0, _, _ => none
  | k + 1, x0, x12 => if x12 = true then (some (0, 0, 0)) else (wageofficeref02_Date.l0 k x0 2000 1)
def wageofficeref02_Date.l0 : Nat → Int → Int → Int → Option (Int × Int × Int)
  | 0, _, _, _ => none
  | k + 1, x0, x5, x6 => (wageofficeref02_Days.f k x5 x6).bind fun t147 => (if x0 ≥ t147 then ((wageofficeref02_Days.f k x5 x6).bind fun t148 => (if (wrap64 (x6 + 1)) > 12 then (wageofficeref02_Date.l0 k (wrap64 (x0 - t148)) (wrap64 (x5 + 1)) 1) else (wageofficeref02_Date.l0 k (wrap64 (x0 - t148)) x5 (wrap64 (x6 + 1))))) else (some (x5, x6, wrap64 (x0 + 1))))
end
def wageofficeref02_Date.f (k : Nat) (a0 : Int) : Option (Int × Int × Int) := if a0 < 0 then (wageofficeref02_Date.j0 k a0 true) else (wageofficeref02_Date.j0 k a0 (decide (a0 > 36524)))
theorem wageofficeref02_Date.mono_l : ∀ k, (∀ y0 y1, LeO (wageofficeref02_Date.j0 k y0 y1) (wageofficeref02_Date.j0 (k + 1) y0 y1)) ∧ (∀ y0 y1 y2, LeO (wageofficeref02_Date.l0 k y0 y1 y2) (wageofficeref02_Date.l0 (k + 1) y0 y1 y2))
  | 0 => ⟨fun _ _ r h => by simp [wageofficeref02_Date.j0] at h, fun _ _ _ r h => by simp [wageofficeref02_Date.l0] at h⟩
  | k + 1 => by
    obtain ⟨ih0, ih1⟩ := wageofficeref02_Date.mono_l k
    refine ⟨?_, ?_⟩
    · intro y0 y1
      unfold wageofficeref02_Date.j0
      repeat' first
      | (with_reducible exact ih0 _ _)
      | (with_reducible exact ih1 _ _ _)
      | (with_reducible exact wageofficeref02_Days.mono _ _ _)
      | (with_reducible exact LeO.refl _)
      | (with_reducible exact LeO.none _)
      | (with_reducible refine LeO.ite ?_ ?_)
      | (with_reducible refine LeO.bind ?_ (fun _ => ?_))
      | exact ih0 _ _
      | exact ih1 _ _ _
      | exact wageofficeref02_Days.mono _ _ _
      | exact LeO.none _
      | refine LeO.ite ?_ ?_
      | refine LeO.bind ?_ (fun _ => ?_)
    · intro y0 y1 y2
      unfold wageofficeref02_Date.l0
      repeat' first
      | (with_reducible exact ih0 _ _)
      | (with_reducible exact ih1 _ _ _)
      | (with_reducible exact wageofficeref02_Days.mono _ _ _)
      | (with_reducible exact LeO.refl _)
      | (with_reducible exact LeO.none _)
      | (with_reducible refine LeO.ite ?_ ?_)
      | (with_reducible refine LeO.bind ?_ (fun _ => ?_))
      | exact ih0 _ _
      | exact ih1 _ _ _
      | exact wageofficeref02_Days.mono _ _ _
      | exact LeO.none _
      | refine LeO.ite ?_ ?_
      | refine LeO.bind ?_ (fun _ => ?_)
theorem wageofficeref02_Date.mono : ∀ a0 k, LeO (wageofficeref02_Date.f k a0) (wageofficeref02_Date.f (k + 1) a0) := by
  intro a0 k
  obtain ⟨ih0, ih1⟩ := wageofficeref02_Date.mono_l k
  unfold wageofficeref02_Date.f
  repeat' first
      | (with_reducible exact ih0 _ _)
      | (with_reducible exact ih1 _ _ _)
      | (with_reducible exact wageofficeref02_Days.mono _ _ _)
      | (with_reducible exact LeO.refl _)
      | (with_reducible exact LeO.none _)
      | (with_reducible refine LeO.ite ?_ ?_)
      | (with_reducible refine LeO.bind ?_ (fun _ => ?_))
      | exact ih0 _ _
      | exact ih1 _ _ _
      | exact wageofficeref02_Days.mono _ _ _
      | exact LeO.none _
      | refine LeO.ite ?_ ?_
      | refine LeO.bind ?_ (fun _ => ?_)
set_option maxHeartbeats 8000000 in
set_option maxRecDepth 100000 in
theorem wageofficeref02_Date.calls (k : Nat) (a0 : Int) (r1 : Int) (r2 : Int) (r3 : Int) (w : World) (h : wageofficeref02_Date.f k a0 = some (r1, r2, r3)) :
    Calls Tryd.prog 12 #[.int .i64 a0] w fun e w' => e = .returned (.tuple #[.int .i64 r1, .int .i64 r2, .int .i64 r3]) ∧ Drawn0 w w' := by
  have H : (if a0 < 0 then (wageofficeref02_Date.j0 k a0 true) else (wageofficeref02_Date.j0 k a0 (decide (a0 > 36524)))) = some (r1, r2, r3) := h
  clear h
  have HC2 := Aside0.mk H
  clear H
  go_enter Tryd.func12, Tryd.ntmps12
  go_upto_region 1 with (fail)
  go_cut [12] (fun v12 wc => ∃ (kq : Nat) (x12_1 : Bool), v12 = .bool x12_1 ∧ Aside0 (wageofficeref02_Date.j0 kq a0 x12_1 = some (r1, r2, r3)) ∧ Aside0 (kq ≤ k) ∧ Drawn0 w wc)
  case first =>
    have H := HC2.out
    clear HC2
    by_cases c3 : a0 < 0
    · rw [if_pos c3] at H
      have c3b0 : decide (a0 < 0) = true := decide_eq_true c3
      clear c3
      (first | rw [c3b0] | (simp only [i64_w, i32_w]; rw [c3b0]) | skip)
      have H' := Aside0.mk H
      clear H
      go_wp2
      go_meet
      case rel => exact ⟨_, (true), (by first | rfl | (simp; done) | (simp [*]; done)), H', ⟨by first | omega | exact Nat.le_refl _⟩, by repeat (first | exact Drawn0.refl _ | apply Drawn0.step)⟩
    · rw [if_neg c3] at H
      have c3b0 : decide (a0 < 0) = false := decide_eq_false c3
      clear c3
      (first | rw [c3b0] | (simp only [i64_w, i32_w]; rw [c3b0]) | skip)
      have H' := Aside0.mk H
      clear H
      go_wp2
      go_meet
      case rel => exact ⟨_, (decide (a0 > 36524)), (by first | rfl | (simp; done) | (simp [*]; done)), H', ⟨by first | omega | exact Nat.le_refl _⟩, by repeat (first | exact Drawn0.refl _ | apply Drawn0.step)⟩
  case rest =>
    clear HC2
    try clear c1
    try clear p2
    try clear c3
    try clear c3b0
    obtain ⟨kq, x12_1, rfl, HA, HJ1, ⟨mc1, rfl⟩⟩ := hcut
    cases kq with
    | zero => exact absurd HA.out (by simp [wageofficeref02_Date.j0])
    | succ kj1 =>
      have H := HA.out
      clear HA
      simp only [wageofficeref02_Date.j0] at H
      by_cases c4 : x12_1 = true
      · subst c4
        have H1 : (some (0, 0, 0)) = some (r1, r2, r3) := by rw [if_pos rfl] at H; exact H
        clear H
        have H := H1
        clear H1
        simp only [Option.some.injEq, Prod.mk.injEq] at H
        obtain ⟨rfl, rfl, rfl⟩ := H
        go_wp2
        go_ret3
        exact ⟨by first | rfl | (simp; done) | (simp [*]; done), by repeat (first | exact Drawn0.refl _ | apply Drawn0.step)⟩
      · replace c4 := Bool.eq_false_iff.mpr c4
        subst c4
        have H1 : (wageofficeref02_Date.l0 kj1 a0 2000 1) = some (r1, r2, r3) := by rw [if_neg (show ¬ (false = true) by decide)] at H; exact H
        clear H
        have H := H1
        clear H1
        have H' := Aside0.mk H
        clear H
        go_wp2
        go_loopg [0, 5, 6] kj1 (fun kq v0 v5 v6 w' => ∃ (x0_2 : Int) (x5_2 : Int) (x6_2 : Int), v0 = .int .i64 x0_2 ∧ v5 = .int .i64 x5_2 ∧ v6 = .int .i64 x6_2 ∧ Aside0 (wageofficeref02_Date.l0 kq x0_2 x5_2 x6_2 = some (r1, r2, r3)) ∧ Aside0 (kq ≤ kj1) ∧ Drawn0 w w')
        case atStart => exact ⟨(a0), (2000), (1), (by first | rfl | (simp; done) | (simp [*]; done)), (by first | rfl | (simp; done) | (simp [*]; done)), (by first | rfl | (simp; done) | (simp [*]; done)), H', ⟨Nat.le_refl _⟩, by repeat (first | exact Drawn0.refl _ | apply Drawn0.step)⟩
        case round =>
          clear H'
          try clear c1
          try clear p2
          try clear c3
          try clear c3b0
          try clear c4
          try clear p2
          obtain ⟨x0_2, x5_2, x6_2, rfl, rfl, rfl, HA, HK2, ⟨m2, rfl⟩⟩ := hrel
          cases gk with
          | zero => exact absurd HA.out (by simp [wageofficeref02_Date.l0])
          | succ k2 =>
            have H := HA.out
            clear HA
            simp only [wageofficeref02_Date.l0] at H
            replace H := Option.bind_eq_some_iff.mp H
            obtain ⟨t147, A50, H⟩ := H
            replace H : (if x0_2 ≥ t147 then ((wageofficeref02_Days.f k2 x5_2 x6_2).bind fun t148 => (if (wrap64 (x6_2 + 1)) > 12 then (wageofficeref02_Date.l0 k2 (wrap64 (x0_2 - t148)) (wrap64 (x5_2 + 1)) 1) else (wageofficeref02_Date.l0 k2 (wrap64 (x0_2 - t148)) x5_2 (wrap64 (x6_2 + 1))))) else (some (x5_2, x6_2, wrap64 (x0_2 + 1)))) = some (r1, r2, r3) := H
            have A5 := Aside0.mk A50
            clear A50
            by_cases c6 : x0_2 ≥ t147
            · rw [if_pos c6] at H
              have c6b0 : decide (t147 ≤ x0_2) = true := decide_eq_true c6
              clear c6
              replace H := Option.bind_eq_some_iff.mp H
              obtain ⟨t148, A70, H⟩ := H
              replace H : (if (wrap64 (x6_2 + 1)) > 12 then (wageofficeref02_Date.l0 k2 (wrap64 (x0_2 - t148)) (wrap64 (x5_2 + 1)) 1) else (wageofficeref02_Date.l0 k2 (wrap64 (x0_2 - t148)) x5_2 (wrap64 (x6_2 + 1)))) = some (r1, r2, r3) := H
              have A7 := Aside0.mk A70
              clear A70
              obtain rfl : t147 = t148 := Option.some.inj (A5.out.symm.trans A7.out)
              by_cases c8 : (wrap64 (x6_2 + 1)) > 12
              · rw [if_pos c8] at H
                have c8b0 : decide (12 < (wrap64 (x6_2 + 1))) = true := decide_eq_true c8
                clear c8
                have H' := Aside0.mk H
                clear H
                go_wp2_with (first | ((with_reducible refine gate_callee (f := 29) rfl ?_); refine goesL_ (some 16) rfl rfl Tryd.func29 (by kernel_rfl) rfl #[.int .i64 x5_2, .int .i64 x6_2] rfl (by (try simp only [List.map_toArray, List.map_cons, List.map_nil]); first | done | rfl | (simp only [List.length_drop, List.length_take]; rfl)) ?_; (with_reducible refine (wageofficeref02_Days.calls k2 x5_2 x6_2 t147 _ A5.out).mono ?_); rintro e w' ⟨rfl, ⟨nd, rfl⟩⟩; refine ⟨_, rfl, ?_⟩) | ((with_reducible refine gate_callee (f := 29) rfl ?_); refine goesL_ (some 21) rfl rfl Tryd.func29 (by kernel_rfl) rfl #[.int .i64 x5_2, .int .i64 x6_2] rfl (by (try simp only [List.map_toArray, List.map_cons, List.map_nil]); first | done | rfl | (simp only [List.length_drop, List.length_take]; rfl)) ?_; (with_reducible refine (wageofficeref02_Days.calls k2 x5_2 x6_2 t147 _ A7.out).mono ?_); rintro e w' ⟨rfl, ⟨nd, rfl⟩⟩; refine ⟨_, rfl, ?_⟩))
                go_roundg k2
                case measure => have := HJ1.out; have := HK2.out; omega
                case rel => exact ⟨(wrap64 (x0_2 - t147)), (wrap64 (x5_2 + 1)), (1), (by first | rfl | (simp; done) | (simp [*]; done)), (by first | rfl | (simp; done) | (simp [*]; done)), (by first | rfl | (simp; done) | (simp [*]; done)), H', ⟨by have := HJ1.out; have := HK2.out; omega⟩, by repeat (first | exact Drawn0.refl _ | apply Drawn0.step)⟩
              · rw [if_neg c8] at H
                have c8b0 : decide (12 < (wrap64 (x6_2 + 1))) = false := decide_eq_false c8
                clear c8
                have H' := Aside0.mk H
                clear H
                go_wp2_with (first | ((with_reducible refine gate_callee (f := 29) rfl ?_); refine goesL_ (some 16) rfl rfl Tryd.func29 (by kernel_rfl) rfl #[.int .i64 x5_2, .int .i64 x6_2] rfl (by (try simp only [List.map_toArray, List.map_cons, List.map_nil]); first | done | rfl | (simp only [List.length_drop, List.length_take]; rfl)) ?_; (with_reducible refine (wageofficeref02_Days.calls k2 x5_2 x6_2 t147 _ A5.out).mono ?_); rintro e w' ⟨rfl, ⟨nd, rfl⟩⟩; refine ⟨_, rfl, ?_⟩) | ((with_reducible refine gate_callee (f := 29) rfl ?_); refine goesL_ (some 21) rfl rfl Tryd.func29 (by kernel_rfl) rfl #[.int .i64 x5_2, .int .i64 x6_2] rfl (by (try simp only [List.map_toArray, List.map_cons, List.map_nil]); first | done | rfl | (simp only [List.length_drop, List.length_take]; rfl)) ?_; (with_reducible refine (wageofficeref02_Days.calls k2 x5_2 x6_2 t147 _ A7.out).mono ?_); rintro e w' ⟨rfl, ⟨nd, rfl⟩⟩; refine ⟨_, rfl, ?_⟩))
                go_roundg k2
                case measure => have := HJ1.out; have := HK2.out; omega
                case rel => exact ⟨(wrap64 (x0_2 - t147)), (x5_2), (wrap64 (x6_2 + 1)), (by first | rfl | (simp; done) | (simp [*]; done)), (by first | rfl | (simp; done) | (simp [*]; done)), (by first | rfl | (simp; done) | (simp [*]; done)), H', ⟨by have := HJ1.out; have := HK2.out; omega⟩, by repeat (first | exact Drawn0.refl _ | apply Drawn0.step)⟩
            · rw [if_neg c6] at H
              have c6b0 : decide (t147 ≤ x0_2) = false := decide_eq_false c6
              clear c6
              simp only [Option.some.injEq, Prod.mk.injEq] at H
              obtain ⟨rfl, rfl, rfl⟩ := H
              go_wp2_with (first | ((with_reducible refine gate_callee (f := 29) rfl ?_); refine goesL_ (some 16) rfl rfl Tryd.func29 (by kernel_rfl) rfl #[.int .i64 x5_2, .int .i64 x6_2] rfl (by (try simp only [List.map_toArray, List.map_cons, List.map_nil]); first | done | rfl | (simp only [List.length_drop, List.length_take]; rfl)) ?_; (with_reducible refine (wageofficeref02_Days.calls k2 x5_2 x6_2 t147 _ A5.out).mono ?_); rintro e w' ⟨rfl, ⟨nd, rfl⟩⟩; refine ⟨_, rfl, ?_⟩))
              go_ret3
              exact ⟨by first | rfl | (simp; done) | (simp [*]; done), by repeat (first | exact Drawn0.refl _ | apply Drawn0.step)⟩

/-! ### wageofficeref02_First: function 22 -/
mutual
def wageofficeref02_First.j0 : Nat → Int → Bool → Option (Int)
  | 0, _, _ => none
  | k + 1, x0, x10 => if x10 = true then (some (-1)) else (wageofficeref02_First.l0 k x0 0 0)
def wageofficeref02_First.l0 : Nat → Int → Int → Int → Option (Int)
  | 0, _, _, _ => none
  | k + 1, x0, x3, x4 => if x4 < x0 then ((wageofficeref02_Days.f k (wrap64 (2000 + (wrap64 (Int.tdiv x4 12)))) (wrap64 ((Int.tmod x4 12) + 1))).bind fun t149 => (wageofficeref02_First.l0 k x0 (wrap64 (x3 + t149)) (wrap64 (x4 + 1)))) else (some x3)
end
def wageofficeref02_First.f (k : Nat) (a0 : Int) : Option (Int) := if a0 < 0 then (wageofficeref02_First.j0 k a0 true) else (wageofficeref02_First.j0 k a0 (decide (a0 > 1199)))
theorem wageofficeref02_First.mono_l : ∀ k, (∀ y0 y1, LeO (wageofficeref02_First.j0 k y0 y1) (wageofficeref02_First.j0 (k + 1) y0 y1)) ∧ (∀ y0 y1 y2, LeO (wageofficeref02_First.l0 k y0 y1 y2) (wageofficeref02_First.l0 (k + 1) y0 y1 y2))
  | 0 => ⟨fun _ _ r h => by simp [wageofficeref02_First.j0] at h, fun _ _ _ r h => by simp [wageofficeref02_First.l0] at h⟩
  | k + 1 => by
    obtain ⟨ih0, ih1⟩ := wageofficeref02_First.mono_l k
    refine ⟨?_, ?_⟩
    · intro y0 y1
      unfold wageofficeref02_First.j0
      repeat' first
      | (with_reducible exact ih0 _ _)
      | (with_reducible exact ih1 _ _ _)
      | (with_reducible exact wageofficeref02_Days.mono _ _ _)
      | (with_reducible exact LeO.refl _)
      | (with_reducible exact LeO.none _)
      | (with_reducible refine LeO.ite ?_ ?_)
      | (with_reducible refine LeO.bind ?_ (fun _ => ?_))
      | exact ih0 _ _
      | exact ih1 _ _ _
      | exact wageofficeref02_Days.mono _ _ _
      | exact LeO.none _
      | refine LeO.ite ?_ ?_
      | refine LeO.bind ?_ (fun _ => ?_)
    · intro y0 y1 y2
      unfold wageofficeref02_First.l0
      repeat' first
      | (with_reducible exact ih0 _ _)
      | (with_reducible exact ih1 _ _ _)
      | (with_reducible exact wageofficeref02_Days.mono _ _ _)
      | (with_reducible exact LeO.refl _)
      | (with_reducible exact LeO.none _)
      | (with_reducible refine LeO.ite ?_ ?_)
      | (with_reducible refine LeO.bind ?_ (fun _ => ?_))
      | exact ih0 _ _
      | exact ih1 _ _ _
      | exact wageofficeref02_Days.mono _ _ _
      | exact LeO.none _
      | refine LeO.ite ?_ ?_
      | refine LeO.bind ?_ (fun _ => ?_)
theorem wageofficeref02_First.mono : ∀ a0 k, LeO (wageofficeref02_First.f k a0) (wageofficeref02_First.f (k + 1) a0) := by
  intro a0 k
  obtain ⟨ih0, ih1⟩ := wageofficeref02_First.mono_l k
  unfold wageofficeref02_First.f
  repeat' first
      | (with_reducible exact ih0 _ _)
      | (with_reducible exact ih1 _ _ _)
      | (with_reducible exact wageofficeref02_Days.mono _ _ _)
      | (with_reducible exact LeO.refl _)
      | (with_reducible exact LeO.none _)
      | (with_reducible refine LeO.ite ?_ ?_)
      | (with_reducible refine LeO.bind ?_ (fun _ => ?_))
      | exact ih0 _ _
      | exact ih1 _ _ _
      | exact wageofficeref02_Days.mono _ _ _
      | exact LeO.none _
      | refine LeO.ite ?_ ?_
      | refine LeO.bind ?_ (fun _ => ?_)
set_option maxHeartbeats 8000000 in
set_option maxRecDepth 100000 in
theorem wageofficeref02_First.calls (k : Nat) (a0 : Int) (r : Int) (w : World) (h : wageofficeref02_First.f k a0 = some r) :
    Calls Tryd.prog 22 #[.int .i64 a0] w fun e w' => e = .returned (.int .i64 r) ∧ Drawn0 w w' := by
  have H : (if a0 < 0 then (wageofficeref02_First.j0 k a0 true) else (wageofficeref02_First.j0 k a0 (decide (a0 > 1199)))) = some r := h
  clear h
  have HC2 := Aside0.mk H
  clear H
  go_enter Tryd.func22, Tryd.ntmps22
  go_upto_region 1 with (fail)
  go_cut [10] (fun v10 wc => ∃ (kq : Nat) (x10_1 : Bool), v10 = .bool x10_1 ∧ Aside0 (wageofficeref02_First.j0 kq a0 x10_1 = some r) ∧ Aside0 (kq ≤ k) ∧ Drawn0 w wc)
  case first =>
    have H := HC2.out
    clear HC2
    by_cases c3 : a0 < 0
    · rw [if_pos c3] at H
      have c3b0 : decide (a0 < 0) = true := decide_eq_true c3
      clear c3
      (first | rw [c3b0] | (simp only [i64_w, i32_w]; rw [c3b0]) | skip)
      have H' := Aside0.mk H
      clear H
      go_wp2
      go_meet
      case rel => exact ⟨_, (true), (by first | rfl | (simp; done) | (simp [*]; done)), H', ⟨by first | omega | exact Nat.le_refl _⟩, by repeat (first | exact Drawn0.refl _ | apply Drawn0.step)⟩
    · rw [if_neg c3] at H
      have c3b0 : decide (a0 < 0) = false := decide_eq_false c3
      clear c3
      (first | rw [c3b0] | (simp only [i64_w, i32_w]; rw [c3b0]) | skip)
      have H' := Aside0.mk H
      clear H
      go_wp2
      go_meet
      case rel => exact ⟨_, (decide (a0 > 1199)), (by first | rfl | (simp; done) | (simp [*]; done)), H', ⟨by first | omega | exact Nat.le_refl _⟩, by repeat (first | exact Drawn0.refl _ | apply Drawn0.step)⟩
  case rest =>
    clear HC2
    try clear c2
    try clear p2
    try clear c3
    try clear c3b0
    obtain ⟨kq, x10_1, rfl, HA, HJ1, ⟨mc1, rfl⟩⟩ := hcut
    cases kq with
    | zero => exact absurd HA.out (by simp [wageofficeref02_First.j0])
    | succ kj1 =>
      have H := HA.out
      clear HA
      simp only [wageofficeref02_First.j0] at H
      by_cases c4 : x10_1 = true
      · subst c4
        have H1 : (some (-1)) = some r := by rw [if_pos rfl] at H; exact H
        clear H
        have H := H1
        clear H1
        obtain rfl := Option.some.inj H
        go_wp2
        go_ret
        exact ⟨by first | rfl | (simp; done) | (simp [*]; done), by repeat (first | exact Drawn0.refl _ | apply Drawn0.step)⟩
      · replace c4 := Bool.eq_false_iff.mpr c4
        subst c4
        have H1 : (wageofficeref02_First.l0 kj1 a0 0 0) = some r := by rw [if_neg (show ¬ (false = true) by decide)] at H; exact H
        clear H
        have H := H1
        clear H1
        have H' := Aside0.mk H
        clear H
        go_wp2
        go_loopg [3, 4] kj1 (fun kq v3 v4 w' => ∃ (x3_2 : Int) (x4_2 : Int), v3 = .int .i64 x3_2 ∧ v4 = .int .i64 x4_2 ∧ Aside0 (wageofficeref02_First.l0 kq a0 x3_2 x4_2 = some r) ∧ Aside0 (kq ≤ kj1) ∧ Drawn0 w w')
        case atStart => exact ⟨(0), (0), (by first | rfl | (simp; done) | (simp [*]; done)), (by first | rfl | (simp; done) | (simp [*]; done)), H', ⟨Nat.le_refl _⟩, by repeat (first | exact Drawn0.refl _ | apply Drawn0.step)⟩
        case round =>
          clear H'
          try clear c1
          try clear c2
          try clear p2
          try clear c3
          try clear c3b0
          try clear c4
          try clear p2
          obtain ⟨x3_2, x4_2, rfl, rfl, HA, HK2, ⟨m2, rfl⟩⟩ := hrel
          cases gk with
          | zero => exact absurd HA.out (by simp [wageofficeref02_First.l0])
          | succ k2 =>
            have H := HA.out
            clear HA
            simp only [wageofficeref02_First.l0] at H
            by_cases c5 : x4_2 < a0
            · rw [if_pos c5] at H
              have c5b0 : decide (x4_2 < a0) = true := decide_eq_true c5
              clear c5
              replace H := Option.bind_eq_some_iff.mp H
              obtain ⟨t149, A60, H⟩ := H
              replace H : (wageofficeref02_First.l0 k2 a0 (wrap64 (x3_2 + t149)) (wrap64 (x4_2 + 1))) = some r := H
              have A6 := Aside0.mk A60
              clear A60
              have H' := Aside0.mk H
              clear H
              go_wp2_with (first | ((with_reducible refine gate_callee (f := 29) rfl ?_); refine goesL_ (some 23) rfl rfl Tryd.func29 (by kernel_rfl) rfl #[.int .i64 (wrap64 (2000 + (wrap64 (Int.tdiv x4_2 12)))), .int .i64 (wrap64 ((Int.tmod x4_2 12) + 1))] rfl (by (try simp only [List.map_toArray, List.map_cons, List.map_nil]); first | done | rfl | (simp only [List.length_drop, List.length_take]; rfl)) ?_; (with_reducible refine (wageofficeref02_Days.calls k2 (wrap64 (2000 + (wrap64 (Int.tdiv x4_2 12)))) (wrap64 ((Int.tmod x4_2 12) + 1)) t149 _ A6.out).mono ?_); rintro e w' ⟨rfl, ⟨nd, rfl⟩⟩; refine ⟨_, rfl, ?_⟩))
              go_roundg k2
              case measure => have := HJ1.out; have := HK2.out; omega
              case rel => exact ⟨(wrap64 (x3_2 + t149)), (wrap64 (x4_2 + 1)), (by first | rfl | (simp; done) | (simp [*]; done)), (by first | rfl | (simp; done) | (simp [*]; done)), H', ⟨by have := HJ1.out; have := HK2.out; omega⟩, by repeat (first | exact Drawn0.refl _ | apply Drawn0.step)⟩
            · rw [if_neg c5] at H
              have c5b0 : decide (x4_2 < a0) = false := decide_eq_false c5
              clear c5
              obtain rfl := Option.some.inj H
              go_wp2
              go_ret
              exact ⟨by first | rfl | (simp; done) | (simp [*]; done), by repeat (first | exact Drawn0.refl _ | apply Drawn0.step)⟩

/-! ### wageofficeref02_Length: function 24 -/
def wageofficeref02_Length.f (k : Nat) (a0 : Int) : Option (Int) := if a0 < 0 then (some 0) else (if a0 > 1199 then (some 0) else ((wageofficeref02_Days.f k (wrap64 (2000 + (wrap64 (Int.tdiv a0 12)))) (wrap64 ((Int.tmod a0 12) + 1))).bind fun t150 => (some t150)))
theorem wageofficeref02_Length.mono : ∀ a0 k, LeO (wageofficeref02_Length.f k a0) (wageofficeref02_Length.f (k + 1) a0) := by
  intro a0 k
  unfold wageofficeref02_Length.f
  repeat' first
      | (with_reducible exact wageofficeref02_Days.mono _ _ _)
      | (with_reducible exact LeO.refl _)
      | (with_reducible exact LeO.none _)
      | (with_reducible refine LeO.ite ?_ ?_)
      | (with_reducible refine LeO.bind ?_ (fun _ => ?_))
      | exact wageofficeref02_Days.mono _ _ _
      | exact LeO.none _
      | refine LeO.ite ?_ ?_
      | refine LeO.bind ?_ (fun _ => ?_)
set_option maxHeartbeats 8000000 in
set_option maxRecDepth 100000 in
theorem wageofficeref02_Length.calls (k : Nat) (a0 : Int) (r : Int) (w : World) (h : wageofficeref02_Length.f k a0 = some r) :
    Calls Tryd.prog 24 #[.int .i64 a0] w fun e w' => e = .returned (.int .i64 r) ∧ Drawn0 w w' := by
  have H : (if a0 < 0 then (some 0) else (if a0 > 1199 then (some 0) else ((wageofficeref02_Days.f k (wrap64 (2000 + (wrap64 (Int.tdiv a0 12)))) (wrap64 ((Int.tmod a0 12) + 1))).bind fun t150 => (some t150)))) = some r := h
  clear h
  by_cases c2 : a0 < 0
  · rw [if_pos c2] at H
    have c2b0 : decide (a0 < 0) = true := decide_eq_true c2
    clear c2
    obtain rfl := Option.some.inj H
    go_enter Tryd.func24, Tryd.ntmps24
    go_wp2
    go_ret
    exact ⟨by first | rfl | (simp; done) | (simp [*]; done), by repeat (first | exact Drawn0.refl _ | apply Drawn0.step)⟩
  · rw [if_neg c2] at H
    have c2b0 : decide (a0 < 0) = false := decide_eq_false c2
    clear c2
    by_cases c3 : a0 > 1199
    · rw [if_pos c3] at H
      have c3b0 : decide (1199 < a0) = true := decide_eq_true c3
      clear c3
      obtain rfl := Option.some.inj H
      go_enter Tryd.func24, Tryd.ntmps24
      go_wp2
      go_ret
      exact ⟨by first | rfl | (simp; done) | (simp [*]; done), by repeat (first | exact Drawn0.refl _ | apply Drawn0.step)⟩
    · rw [if_neg c3] at H
      have c3b0 : decide (1199 < a0) = false := decide_eq_false c3
      clear c3
      replace H := Option.bind_eq_some_iff.mp H
      obtain ⟨t150, A40, H⟩ := H
      replace H : (some t150) = some r := H
      have A4 := Aside0.mk A40
      clear A40
      obtain rfl := Option.some.inj H
      go_enter Tryd.func24, Tryd.ntmps24
      go_wp2_with (first | ((with_reducible refine gate_callee (f := 29) rfl ?_); refine goesL_ (some 15) rfl rfl Tryd.func29 (by kernel_rfl) rfl #[.int .i64 (wrap64 (2000 + (wrap64 (Int.tdiv a0 12)))), .int .i64 (wrap64 ((Int.tmod a0 12) + 1))] rfl (by (try simp only [List.map_toArray, List.map_cons, List.map_nil]); first | done | rfl | (simp only [List.length_drop, List.length_take]; rfl)) ?_; (with_reducible refine (wageofficeref02_Days.calls k (wrap64 (2000 + (wrap64 (Int.tdiv a0 12)))) (wrap64 ((Int.tmod a0 12) + 1)) t150 _ A4.out).mono ?_); rintro e w' ⟨rfl, ⟨nd, rfl⟩⟩; refine ⟨_, rfl, ?_⟩))
      go_ret
      exact ⟨by first | rfl | (simp; done) | (simp [*]; done), by repeat (first | exact Drawn0.refl _ | apply Drawn0.step)⟩

/-! ### wageofficeref02_Later: function 14 -/
mutual
def wageofficeref02_Later.j0 : Nat → Int → Int → Int → Int → Bool → Option (Int × Int)
  | 0, _, _, _, _, _ => none
  | k + 1, x1, x6, x7, x8, x25 => if x25 = true then (some (0, 21)) else (if (wrap64 ((wrap64 ((wrap64 ((wrap64 ((wrap64 (x6 - 2000)) * 12)) + x7)) - 1)) + x1)) < 0 then (wageofficeref02_Later.j1 k x8 (wrap64 ((wrap64 ((wrap64 ((wrap64 ((wrap64 (x6 - 2000)) * 12)) + x7)) - 1)) + x1)) true) else (wageofficeref02_Later.j1 k x8 (wrap64 ((wrap64 ((wrap64 ((wrap64 ((wrap64 (x6 - 2000)) * 12)) + x7)) - 1)) + x1)) (decide ((wrap64 ((wrap64 ((wrap64 ((wrap64 ((wrap64 (x6 - 2000)) * 12)) + x7)) - 1)) + x1)) > 1199))))
def wageofficeref02_Later.j1 : Nat → Int → Int → Bool → Option (Int × Int)
  | 0, _, _, _ => none
  | k + 1, x8, x9, x39 => if x39 = true then (some (0, 21)) else ((wageofficeref02_First.f k x9).bind fun t154 => ((wageofficeref02_Length.f k x9).bind fun t155 => (some (wrap64 ((wrap64 (t154 + (mn x8 t155))) - 1), 0))))
end
def wageofficeref02_Later.f (k : Nat) (a0 : Int) (a1 : Int) : Option (Int × Int) := (wageofficeref02_Date.f k a0).bind fun bt151 => (if bt151.1 = 0 then (wageofficeref02_Later.j0 k a1 bt151.1 bt151.2.1 bt151.2.2 true) else (if a1 < (-1199) then (wageofficeref02_Later.j0 k a1 bt151.1 bt151.2.1 bt151.2.2 true) else (wageofficeref02_Later.j0 k a1 bt151.1 bt151.2.1 bt151.2.2 (decide (a1 > 1199)))))
theorem wageofficeref02_Later.mono_l : ∀ k, (∀ y0 y1 y2 y3 y4, LeO (wageofficeref02_Later.j0 k y0 y1 y2 y3 y4) (wageofficeref02_Later.j0 (k + 1) y0 y1 y2 y3 y4)) ∧ (∀ y0 y1 y2, LeO (wageofficeref02_Later.j1 k y0 y1 y2) (wageofficeref02_Later.j1 (k + 1) y0 y1 y2))
  | 0 => ⟨fun _ _ _ _ _ r h => by simp [wageofficeref02_Later.j0] at h, fun _ _ _ r h => by simp [wageofficeref02_Later.j1] at h⟩
  | k + 1 => by
    obtain ⟨ih0, ih1⟩ := wageofficeref02_Later.mono_l k
    refine ⟨?_, ?_⟩
    · intro y0 y1 y2 y3 y4
      unfold wageofficeref02_Later.j0
      repeat' first
      | (with_reducible exact ih0 _ _ _ _ _)
      | (with_reducible exact ih1 _ _ _)
      | (with_reducible exact wageofficeref02_Date.mono _ _)
      | (with_reducible exact wageofficeref02_First.mono _ _)
      | (with_reducible exact wageofficeref02_Length.mono _ _)
      | (with_reducible exact LeO.refl _)
      | (with_reducible exact LeO.none _)
      | (with_reducible refine LeO.ite ?_ ?_)
      | (with_reducible refine LeO.bind ?_ (fun _ => ?_))
      | exact ih0 _ _ _ _ _
      | exact ih1 _ _ _
      | exact wageofficeref02_Date.mono _ _
      | exact wageofficeref02_First.mono _ _
      | exact wageofficeref02_Length.mono _ _
      | exact LeO.none _
      | refine LeO.ite ?_ ?_
      | refine LeO.bind ?_ (fun _ => ?_)
    · intro y0 y1 y2
      unfold wageofficeref02_Later.j1
      repeat' first
      | (with_reducible exact ih0 _ _ _ _ _)
      | (with_reducible exact ih1 _ _ _)
      | (with_reducible exact wageofficeref02_Date.mono _ _)
      | (with_reducible exact wageofficeref02_First.mono _ _)
      | (with_reducible exact wageofficeref02_Length.mono _ _)
      | (with_reducible exact LeO.refl _)
      | (with_reducible exact LeO.none _)
      | (with_reducible refine LeO.ite ?_ ?_)
      | (with_reducible refine LeO.bind ?_ (fun _ => ?_))
      | exact ih0 _ _ _ _ _
      | exact ih1 _ _ _
      | exact wageofficeref02_Date.mono _ _
      | exact wageofficeref02_First.mono _ _
      | exact wageofficeref02_Length.mono _ _
      | exact LeO.none _
      | refine LeO.ite ?_ ?_
      | refine LeO.bind ?_ (fun _ => ?_)
theorem wageofficeref02_Later.mono : ∀ a0 a1 k, LeO (wageofficeref02_Later.f k a0 a1) (wageofficeref02_Later.f (k + 1) a0 a1) := by
  intro a0 a1 k
  obtain ⟨ih0, ih1⟩ := wageofficeref02_Later.mono_l k
  unfold wageofficeref02_Later.f
  repeat' first
      | (with_reducible exact ih0 _ _ _ _ _)
      | (with_reducible exact ih1 _ _ _)
      | (with_reducible exact wageofficeref02_Date.mono _ _)
      | (with_reducible exact wageofficeref02_First.mono _ _)
      | (with_reducible exact wageofficeref02_Length.mono _ _)
      | (with_reducible exact LeO.refl _)
      | (with_reducible exact LeO.none _)
      | (with_reducible refine LeO.ite ?_ ?_)
      | (with_reducible refine LeO.bind ?_ (fun _ => ?_))
      | exact ih0 _ _ _ _ _
      | exact ih1 _ _ _
      | exact wageofficeref02_Date.mono _ _
      | exact wageofficeref02_First.mono _ _
      | exact wageofficeref02_Length.mono _ _
      | exact LeO.none _
      | refine LeO.ite ?_ ?_
      | refine LeO.bind ?_ (fun _ => ?_)
set_option maxHeartbeats 8000000 in
set_option maxRecDepth 100000 in
theorem wageofficeref02_Later.calls (k : Nat) (a0 : Int) (a1 : Int) (r1 : Int) (r2 : Int) (w : World) (h : wageofficeref02_Later.f k a0 a1 = some (r1, r2)) :
    Calls Tryd.prog 14 #[.int .i64 a0, .int .i64 a1] w fun e w' => e = .returned (.tuple #[.int .i64 r1, .int .i64 r2]) ∧ Below w.heap.size w w' := by
  have HB := Aside0.mk (Below.refl w.heap.size w)
  have H : ((wageofficeref02_Date.f k a0).bind fun bt151 => (if bt151.1 = 0 then (wageofficeref02_Later.j0 k a1 bt151.1 bt151.2.1 bt151.2.2 true) else (if a1 < (-1199) then (wageofficeref02_Later.j0 k a1 bt151.1 bt151.2.1 bt151.2.2 true) else (wageofficeref02_Later.j0 k a1 bt151.1 bt151.2.1 bt151.2.2 (decide (a1 > 1199)))))) = some (r1, r2) := h
  clear h
  replace H := Option.bind_eq_some_iff.mp H
  obtain ⟨⟨t151, t152, t153⟩, A30, H⟩ := H
  replace H : (if t151 = 0 then (wageofficeref02_Later.j0 k a1 t151 t152 t153 true) else (if a1 < (-1199) then (wageofficeref02_Later.j0 k a1 t151 t152 t153 true) else (wageofficeref02_Later.j0 k a1 t151 t152 t153 (decide (a1 > 1199))))) = some (r1, r2) := H
  have A3 := Aside0.mk A30
  clear A30
  have HC4 := Aside0.mk H
  clear H
  go_enter Tryd.func14, Tryd.ntmps14
  go_upto_region 2 with (first | ((with_reducible refine gate_callee (f := 12) rfl ?_); refine goesL_ (some 12) rfl rfl Tryd.func12 (by kernel_rfl) rfl #[.int .i64 a0] rfl (by (try simp only [List.map_toArray, List.map_cons, List.map_nil]); first | done | rfl | (simp only [List.length_drop, List.length_take]; rfl)) ?_; (with_reducible refine (wageofficeref02_Date.calls k a0 t151 t152 t153 _ A3.out).mono ?_); rintro e w' ⟨rfl, ⟨nd, rfl⟩⟩; refine ⟨_, rfl, ?_⟩))
  (try simp only [Act.put, List.setIfInBounds_toArray, List.set_cons_zero, List.set_cons_succ])
  go_cut [25] (fun v25 wc => ∃ (kq : Nat) (x25_3 : Bool), v25 = .bool x25_3 ∧ Aside0 (wageofficeref02_Later.j0 kq a1 t151 t152 t153 x25_3 = some (r1, r2)) ∧ Aside0 (kq ≤ k) ∧ Aside0 (Below w.heap.size w wc))
  case first =>
    have H := HC4.out
    clear HC4
    by_cases c5 : t151 = 0
    · rw [if_pos c5] at H
      have c5b0 : (t151 == 0) = true := beq_iff_eq.mpr c5
      have c5b1 : (t151 != 0) = false := bne_eq_false_iff_eq.mpr c5
      clear c5
      (first | rw [c5b0] | (simp only [i64_w, i32_w]; rw [c5b0]) | skip)
      have H' := Aside0.mk H
      clear H
      go_wp2
      go_meet
      case rel => exact ⟨_, (true), (by first | rfl | (simp; done) | (simp [*]; done)), H', ⟨by first | omega | exact Nat.le_refl _⟩, ⟨by repeat (first | (with_reducible first | exact HB.out | apply below_alloc | apply pw_below_drewN | apply below_drew1) | exact HB.out)⟩⟩
    · rw [if_neg c5] at H
      have c5b0 : (t151 == 0) = false := beq_eq_false_iff_ne.mpr c5
      have c5b1 : (t151 != 0) = true := bne_iff_ne.mpr c5
      (first | rw [c5b0] | (simp only [i64_w, i32_w]; rw [c5b0]) | skip)
      by_cases c6 : a1 < (-1199)
      · rw [if_pos c6] at H
        have c6b0 : decide (a1 < (-1199)) = true := decide_eq_true c6
        clear c6
        have H' := Aside0.mk H
        clear H
        go_wp2
        go_meet
        case rel => exact ⟨_, (true), (by first | rfl | (simp; done) | (simp [*]; done)), H', ⟨by first | omega | exact Nat.le_refl _⟩, ⟨by repeat (first | (with_reducible first | exact HB.out | apply below_alloc | apply pw_below_drewN | apply below_drew1) | exact HB.out)⟩⟩
      · rw [if_neg c6] at H
        have c6b0 : decide (a1 < (-1199)) = false := decide_eq_false c6
        clear c6
        have H' := Aside0.mk H
        clear H
        go_wp2
        go_meet
        case rel => exact ⟨_, (decide (a1 > 1199)), (by first | rfl | (simp; done) | (simp [*]; done)), H', ⟨by first | omega | exact Nat.le_refl _⟩, ⟨by repeat (first | (with_reducible first | exact HB.out | apply below_alloc | apply pw_below_drewN | apply below_drew1) | exact HB.out)⟩⟩
  case rest =>
    clear HC4
    try clear c1
    try clear p2
    try clear c5
    try clear c5b0
    try clear c5b1
    try clear c6
    try clear c6b0
    obtain ⟨kq, x25_3, rfl, HA, HJ3, HB⟩ := hcut
    cases kq with
    | zero => exact absurd HA.out (by simp [wageofficeref02_Later.j0])
    | succ kj3 =>
      have H := HA.out
      clear HA
      simp only [wageofficeref02_Later.j0] at H
      by_cases c7 : x25_3 = true
      · subst c7
        have H1 : (some (0, 21)) = some (r1, r2) := by rw [if_pos rfl] at H; exact H
        clear H
        have H := H1
        clear H1
        simp only [Option.some.injEq, Prod.mk.injEq] at H
        obtain ⟨rfl, rfl⟩ := H
        go_wp2
        go_ret2
        exact ⟨by first | rfl | (simp [errW_none, errW_some] <;> rfl) | (simp [*, errW_none, errW_some] <;> rfl), by repeat (first | (with_reducible first | exact HB.out | apply below_alloc | apply pw_below_drewN | apply below_drew1) | exact HB.out)⟩
      · replace c7 := Bool.eq_false_iff.mpr c7
        subst c7
        have H1 : (if (wrap64 ((wrap64 ((wrap64 ((wrap64 ((wrap64 (t151 - 2000)) * 12)) + t152)) - 1)) + a1)) < 0 then (wageofficeref02_Later.j1 kj3 t153 (wrap64 ((wrap64 ((wrap64 ((wrap64 ((wrap64 (t151 - 2000)) * 12)) + t152)) - 1)) + a1)) true) else (wageofficeref02_Later.j1 kj3 t153 (wrap64 ((wrap64 ((wrap64 ((wrap64 ((wrap64 (t151 - 2000)) * 12)) + t152)) - 1)) + a1)) (decide ((wrap64 ((wrap64 ((wrap64 ((wrap64 ((wrap64 (t151 - 2000)) * 12)) + t152)) - 1)) + a1)) > 1199)))) = some (r1, r2) := by rw [if_neg (show ¬ (false = true) by decide)] at H; exact H
        clear H
        have H := H1
        clear H1
        have HC8 := Aside0.mk H
        clear H
        go_upto_region 5 with (fail)
        go_cut [39] (fun v39 wc => ∃ (kq : Nat) (x39_7 : Bool), v39 = .bool x39_7 ∧ Aside0 (wageofficeref02_Later.j1 kq t153 (wrap64 ((wrap64 ((wrap64 ((wrap64 ((wrap64 (t151 - 2000)) * 12)) + t152)) - 1)) + a1)) x39_7 = some (r1, r2)) ∧ Aside0 (kq ≤ kj3) ∧ Aside0 (Below w.heap.size w wc))
        case first =>
          have H := HC8.out
          clear HC8
          by_cases c9 : (wrap64 ((wrap64 ((wrap64 ((wrap64 ((wrap64 (t151 - 2000)) * 12)) + t152)) - 1)) + a1)) < 0
          · rw [if_pos c9] at H
            have c9b0 : decide ((wrap64 ((wrap64 ((wrap64 ((wrap64 ((wrap64 (t151 - 2000)) * 12)) + t152)) - 1)) + a1)) < 0) = true := decide_eq_true c9
            clear c9
            (first | rw [c9b0] | (simp only [i64_w, i32_w]; rw [c9b0]) | skip)
            have H' := Aside0.mk H
            clear H
            go_wp2
            go_meet
            case rel => exact ⟨_, (true), (by first | rfl | (simp; done) | (simp [*]; done)), H', ⟨by have := HJ3.out; first | omega | exact Nat.le_refl _⟩, ⟨by repeat (first | (with_reducible first | exact HB.out | apply below_alloc | apply pw_below_drewN | apply below_drew1) | exact HB.out)⟩⟩
          · rw [if_neg c9] at H
            have c9b0 : decide ((wrap64 ((wrap64 ((wrap64 ((wrap64 ((wrap64 (t151 - 2000)) * 12)) + t152)) - 1)) + a1)) < 0) = false := decide_eq_false c9
            clear c9
            (first | rw [c9b0] | (simp only [i64_w, i32_w]; rw [c9b0]) | skip)
            have H' := Aside0.mk H
            clear H
            go_wp2
            go_meet
            case rel => exact ⟨_, (decide ((wrap64 ((wrap64 ((wrap64 ((wrap64 ((wrap64 (t151 - 2000)) * 12)) + t152)) - 1)) + a1)) > 1199)), (by first | rfl | (simp; done) | (simp [*]; done)), H', ⟨by have := HJ3.out; first | omega | exact Nat.le_refl _⟩, ⟨by repeat (first | (with_reducible first | exact HB.out | apply below_alloc | apply pw_below_drewN | apply below_drew1) | exact HB.out)⟩⟩
        case rest =>
          clear HC8
          try clear c1
          try clear p2
          try clear c5
          try clear c5b0
          try clear c5b1
          try clear c6
          try clear c6b0
          try clear p6
          try clear c7
          try clear c9
          try clear c9b0
          try clear p2
          obtain ⟨kq, x39_7, rfl, HA, HJ7, HB⟩ := hcut
          cases kq with
          | zero => exact absurd HA.out (by simp [wageofficeref02_Later.j1])
          | succ kj7 =>
            have H := HA.out
            clear HA
            simp only [wageofficeref02_Later.j1] at H
            by_cases c10 : x39_7 = true
            · subst c10
              have H1 : (some (0, 21)) = some (r1, r2) := by rw [if_pos rfl] at H; exact H
              clear H
              have H := H1
              clear H1
              simp only [Option.some.injEq, Prod.mk.injEq] at H
              obtain ⟨rfl, rfl⟩ := H
              go_wp2
              go_ret2
              exact ⟨by first | rfl | (simp [errW_none, errW_some] <;> rfl) | (simp [*, errW_none, errW_some] <;> rfl), by repeat (first | (with_reducible first | exact HB.out | apply below_alloc | apply pw_below_drewN | apply below_drew1) | exact HB.out)⟩
            · replace c10 := Bool.eq_false_iff.mpr c10
              subst c10
              have H1 : ((wageofficeref02_First.f kj7 (wrap64 ((wrap64 ((wrap64 ((wrap64 ((wrap64 (t151 - 2000)) * 12)) + t152)) - 1)) + a1))).bind fun t154 => ((wageofficeref02_Length.f kj7 (wrap64 ((wrap64 ((wrap64 ((wrap64 ((wrap64 (t151 - 2000)) * 12)) + t152)) - 1)) + a1))).bind fun t155 => (some (wrap64 ((wrap64 (t154 + (mn t153 t155))) - 1), 0)))) = some (r1, r2) := by rw [if_neg (show ¬ (false = true) by decide)] at H; exact H
              clear H
              have H := H1
              clear H1
              replace H := Option.bind_eq_some_iff.mp H
              obtain ⟨t154, A110, H⟩ := H
              replace H : ((wageofficeref02_Length.f kj7 (wrap64 ((wrap64 ((wrap64 ((wrap64 ((wrap64 (t151 - 2000)) * 12)) + t152)) - 1)) + a1))).bind fun t155 => (some (wrap64 ((wrap64 (t154 + (mn t153 t155))) - 1), 0))) = some (r1, r2) := H
              have A11 := Aside0.mk A110
              clear A110
              replace H := Option.bind_eq_some_iff.mp H
              obtain ⟨t155, A120, H⟩ := H
              replace H : (some (wrap64 ((wrap64 (t154 + (mn t153 t155))) - 1), 0)) = some (r1, r2) := H
              have A12 := Aside0.mk A120
              clear A120
              obtain ⟨ji13, hji13⟩ : ∃ j_ : Int, (mn t153 t155) = j_ := ⟨_, rfl⟩
              replace H : (some (wrap64 ((wrap64 (t154 + (ji13))) - 1), 0)) = some (r1, r2) := by first | (rw [hji13] at H; exact H) | (simp only [hji13] at H ⊢; exact H)
              (try rw [hji13] at A11)
              (try rw [hji13] at A12)
              have hji13_ : (if t155 < t153 then t155 else t153) = ji13 := hji13
              simp only [Option.some.injEq, Prod.mk.injEq] at H
              obtain ⟨rfl, rfl⟩ := H
              go_wp2_with (first | ((with_reducible refine gate_callee (f := 22) rfl ?_); refine goesL_ (some 41) rfl rfl Tryd.func22 (by kernel_rfl) rfl #[.int .i64 (wrap64 ((wrap64 ((wrap64 ((wrap64 ((wrap64 (t151 - 2000)) * 12)) + t152)) - 1)) + a1))] rfl (by (try simp only [List.map_toArray, List.map_cons, List.map_nil]); first | done | rfl | (simp only [List.length_drop, List.length_take]; rfl)) ?_; (with_reducible refine (wageofficeref02_First.calls kj7 (wrap64 ((wrap64 ((wrap64 ((wrap64 ((wrap64 (t151 - 2000)) * 12)) + t152)) - 1)) + a1)) t154 _ A11.out).mono ?_); rintro e w' ⟨rfl, ⟨nd, rfl⟩⟩; refine ⟨_, rfl, ?_⟩) | ((with_reducible refine gate_callee (f := 24) rfl ?_); refine goesL_ (some 44) rfl rfl Tryd.func24 (by kernel_rfl) rfl #[.int .i64 (wrap64 ((wrap64 ((wrap64 ((wrap64 ((wrap64 (t151 - 2000)) * 12)) + t152)) - 1)) + a1))] rfl (by (try simp only [List.map_toArray, List.map_cons, List.map_nil]); first | done | rfl | (simp only [List.length_drop, List.length_take]; rfl)) ?_; (with_reducible refine (wageofficeref02_Length.calls kj7 (wrap64 ((wrap64 ((wrap64 ((wrap64 ((wrap64 (t151 - 2000)) * 12)) + t152)) - 1)) + a1)) t155 _ A12.out).mono ?_); rintro e w' ⟨rfl, ⟨nd, rfl⟩⟩; refine ⟨_, rfl, ?_⟩))
              go_ret2
              exact ⟨by first | rfl | (simp [errW_none, errW_some] <;> rfl) | (simp only [← hji13]; first | rfl | (simp [errW_none, errW_some] <;> rfl)) | (simp [*, errW_none, errW_some] <;> rfl), by repeat (first | (with_reducible first | exact HB.out | apply below_alloc | apply pw_below_drewN | apply below_drew1) | exact HB.out)⟩

/-! ### wageofficeref02_Weekday: function 16 -/
def wageofficeref02_Weekday.j0 : Nat → Int → Bool → Option (Int)
  | 0, _, _ => none
  | k + 1, x0, x9 => if x9 = true then (some 0) else (if (wrap64 (6 + (Int.tmod x0 7))) > 7 then (some (wrap64 ((wrap64 (6 + (Int.tmod x0 7))) - 7))) else (some (wrap64 (6 + (Int.tmod x0 7)))))
def wageofficeref02_Weekday.f (k : Nat) (a0 : Int) : Option (Int) := if a0 < 0 then (wageofficeref02_Weekday.j0 k a0 true) else (wageofficeref02_Weekday.j0 k a0 (decide (a0 > 36524)))
theorem wageofficeref02_Weekday.mono_l : ∀ k, (∀ y0 y1, LeO (wageofficeref02_Weekday.j0 k y0 y1) (wageofficeref02_Weekday.j0 (k + 1) y0 y1))
  | 0 => fun _ _ r h => by simp [wageofficeref02_Weekday.j0] at h
  | k + 1 => by
    have ih0 := wageofficeref02_Weekday.mono_l k
    · intro y0 y1
      unfold wageofficeref02_Weekday.j0
      repeat' first
      | (with_reducible exact ih0 _ _)
      | (with_reducible exact LeO.refl _)
      | (with_reducible exact LeO.none _)
      | (with_reducible refine LeO.ite ?_ ?_)
      | (with_reducible refine LeO.bind ?_ (fun _ => ?_))
      | exact ih0 _ _
      | exact LeO.none _
      | refine LeO.ite ?_ ?_
      | refine LeO.bind ?_ (fun _ => ?_)
theorem wageofficeref02_Weekday.mono : ∀ a0 k, LeO (wageofficeref02_Weekday.f k a0) (wageofficeref02_Weekday.f (k + 1) a0) := by
  intro a0 k
  have ih0 := wageofficeref02_Weekday.mono_l k
  unfold wageofficeref02_Weekday.f
  repeat' first
      | (with_reducible exact ih0 _ _)
      | (with_reducible exact LeO.refl _)
      | (with_reducible exact LeO.none _)
      | (with_reducible refine LeO.ite ?_ ?_)
      | (with_reducible refine LeO.bind ?_ (fun _ => ?_))
      | exact ih0 _ _
      | exact LeO.none _
      | refine LeO.ite ?_ ?_
      | refine LeO.bind ?_ (fun _ => ?_)
set_option maxHeartbeats 8000000 in
set_option maxRecDepth 100000 in
theorem wageofficeref02_Weekday.calls (k : Nat) (a0 : Int) (r : Int) (w : World) (h : wageofficeref02_Weekday.f k a0 = some r) :
    Calls Tryd.prog 16 #[.int .i64 a0] w fun e w' => e = .returned (.int .i64 r) ∧ Drawn0 w w' := by
  have H : (if a0 < 0 then (wageofficeref02_Weekday.j0 k a0 true) else (wageofficeref02_Weekday.j0 k a0 (decide (a0 > 36524)))) = some r := h
  clear h
  have HC2 := Aside0.mk H
  clear H
  go_enter Tryd.func16, Tryd.ntmps16
  go_upto_region 1 with (fail)
  go_cut [9] (fun v9 wc => ∃ (kq : Nat) (x9_1 : Bool), v9 = .bool x9_1 ∧ Aside0 (wageofficeref02_Weekday.j0 kq a0 x9_1 = some r) ∧ Aside0 (kq ≤ k) ∧ Drawn0 w wc)
  case first =>
    have H := HC2.out
    clear HC2
    by_cases c3 : a0 < 0
    · rw [if_pos c3] at H
      have c3b0 : decide (a0 < 0) = true := decide_eq_true c3
      clear c3
      (first | rw [c3b0] | (simp only [i64_w, i32_w]; rw [c3b0]) | skip)
      have H' := Aside0.mk H
      clear H
      go_wp2
      go_meet
      case rel => exact ⟨_, (true), (by first | rfl | (simp; done) | (simp [*]; done)), H', ⟨by first | omega | exact Nat.le_refl _⟩, by repeat (first | exact Drawn0.refl _ | apply Drawn0.step)⟩
    · rw [if_neg c3] at H
      have c3b0 : decide (a0 < 0) = false := decide_eq_false c3
      clear c3
      (first | rw [c3b0] | (simp only [i64_w, i32_w]; rw [c3b0]) | skip)
      have H' := Aside0.mk H
      clear H
      go_wp2
      go_meet
      case rel => exact ⟨_, (decide (a0 > 36524)), (by first | rfl | (simp; done) | (simp [*]; done)), H', ⟨by first | omega | exact Nat.le_refl _⟩, by repeat (first | exact Drawn0.refl _ | apply Drawn0.step)⟩
  case rest =>
    clear HC2
    try clear c1
    try clear p2
    try clear c3
    try clear c3b0
    obtain ⟨kq, x9_1, rfl, HA, HJ1, ⟨mc1, rfl⟩⟩ := hcut
    cases kq with
    | zero => exact absurd HA.out (by simp [wageofficeref02_Weekday.j0])
    | succ kj1 =>
      have H := HA.out
      clear HA
      simp only [wageofficeref02_Weekday.j0] at H
      by_cases c4 : x9_1 = true
      · subst c4
        have H1 : (some 0) = some r := by rw [if_pos rfl] at H; exact H
        clear H
        have H := H1
        clear H1
        obtain rfl := Option.some.inj H
        go_wp2
        go_ret
        exact ⟨by first | rfl | (simp; done) | (simp [*]; done), by repeat (first | exact Drawn0.refl _ | apply Drawn0.step)⟩
      · replace c4 := Bool.eq_false_iff.mpr c4
        subst c4
        have H1 : (if (wrap64 (6 + (Int.tmod a0 7))) > 7 then (some (wrap64 ((wrap64 (6 + (Int.tmod a0 7))) - 7))) else (some (wrap64 (6 + (Int.tmod a0 7))))) = some r := by rw [if_neg (show ¬ (false = true) by decide)] at H; exact H
        clear H
        have H := H1
        clear H1
        by_cases c5 : (wrap64 (6 + (Int.tmod a0 7))) > 7
        · rw [if_pos c5] at H
          have c5b0 : decide (7 < (wrap64 (6 + (Int.tmod a0 7)))) = true := decide_eq_true c5
          clear c5
          obtain rfl := Option.some.inj H
          go_wp2
          go_ret
          exact ⟨by first | rfl | (simp; done) | (simp [*]; done), by repeat (first | exact Drawn0.refl _ | apply Drawn0.step)⟩
        · rw [if_neg c5] at H
          have c5b0 : decide (7 < (wrap64 (6 + (Int.tmod a0 7)))) = false := decide_eq_false c5
          clear c5
          obtain rfl := Option.some.inj H
          go_wp2
          go_ret
          exact ⟨by first | rfl | (simp; done) | (simp [*]; done), by repeat (first | exact Drawn0.refl _ | apply Drawn0.step)⟩

/-! ### wageofficeref02_Month: function 18 -/
def wageofficeref02_Month.f (k : Nat) (a0 : Int) : Option (Int) := (wageofficeref02_Date.f k a0).bind fun bt156 => (if bt156.1 = 0 then (some (-1)) else (some (wrap64 ((wrap64 ((wrap64 ((wrap64 (bt156.1 - 2000)) * 12)) + bt156.2.1)) - 1))))
theorem wageofficeref02_Month.mono : ∀ a0 k, LeO (wageofficeref02_Month.f k a0) (wageofficeref02_Month.f (k + 1) a0) := by
  intro a0 k
  unfold wageofficeref02_Month.f
  repeat' first
      | (with_reducible exact wageofficeref02_Date.mono _ _)
      | (with_reducible exact LeO.refl _)
      | (with_reducible exact LeO.none _)
      | (with_reducible refine LeO.ite ?_ ?_)
      | (with_reducible refine LeO.bind ?_ (fun _ => ?_))
      | exact wageofficeref02_Date.mono _ _
      | exact LeO.none _
      | refine LeO.ite ?_ ?_
      | refine LeO.bind ?_ (fun _ => ?_)
set_option maxHeartbeats 8000000 in
set_option maxRecDepth 100000 in
theorem wageofficeref02_Month.calls (k : Nat) (a0 : Int) (r : Int) (w : World) (h : wageofficeref02_Month.f k a0 = some r) :
    Calls Tryd.prog 18 #[.int .i64 a0] w fun e w' => e = .returned (.int .i64 r) ∧ Drawn0 w w' := by
  have H : ((wageofficeref02_Date.f k a0).bind fun bt156 => (if bt156.1 = 0 then (some (-1)) else (some (wrap64 ((wrap64 ((wrap64 ((wrap64 (bt156.1 - 2000)) * 12)) + bt156.2.1)) - 1))))) = some r := h
  clear h
  replace H := Option.bind_eq_some_iff.mp H
  obtain ⟨⟨t156, t157, t158⟩, A20, H⟩ := H
  replace H : (if t156 = 0 then (some (-1)) else (some (wrap64 ((wrap64 ((wrap64 ((wrap64 (t156 - 2000)) * 12)) + t157)) - 1)))) = some r := H
  have A2 := Aside0.mk A20
  clear A20
  by_cases c3 : t156 = 0
  · rw [if_pos c3] at H
    have c3b0 : (t156 == 0) = true := beq_iff_eq.mpr c3
    have c3b1 : (t156 != 0) = false := bne_eq_false_iff_eq.mpr c3
    clear c3
    obtain rfl := Option.some.inj H
    go_enter Tryd.func18, Tryd.ntmps18
    go_wp2_with (first | ((with_reducible refine gate_callee (f := 12) rfl ?_); refine goesL_ (some 8) rfl rfl Tryd.func12 (by kernel_rfl) rfl #[.int .i64 a0] rfl (by (try simp only [List.map_toArray, List.map_cons, List.map_nil]); first | done | rfl | (simp only [List.length_drop, List.length_take]; rfl)) ?_; (with_reducible refine (wageofficeref02_Date.calls k a0 t156 t157 t158 _ A2.out).mono ?_); rintro e w' ⟨rfl, ⟨nd, rfl⟩⟩; refine ⟨_, rfl, ?_⟩))
    go_ret
    exact ⟨by first | rfl | (simp; done) | (simp [*]; done), by repeat (first | exact Drawn0.refl _ | apply Drawn0.step)⟩
  · rw [if_neg c3] at H
    have c3b0 : (t156 == 0) = false := beq_eq_false_iff_ne.mpr c3
    have c3b1 : (t156 != 0) = true := bne_iff_ne.mpr c3
    obtain rfl := Option.some.inj H
    go_enter Tryd.func18, Tryd.ntmps18
    go_wp2_with (first | ((with_reducible refine gate_callee (f := 12) rfl ?_); refine goesL_ (some 8) rfl rfl Tryd.func12 (by kernel_rfl) rfl #[.int .i64 a0] rfl (by (try simp only [List.map_toArray, List.map_cons, List.map_nil]); first | done | rfl | (simp only [List.length_drop, List.length_take]; rfl)) ?_; (with_reducible refine (wageofficeref02_Date.calls k a0 t156 t157 t158 _ A2.out).mono ?_); rintro e w' ⟨rfl, ⟨nd, rfl⟩⟩; refine ⟨_, rfl, ?_⟩))
    go_ret
    exact ⟨by first | rfl | (simp; done) | (simp [*]; done), by repeat (first | exact Drawn0.refl _ | apply Drawn0.step)⟩

/-! ### wageofficeref02_two: function 33 -/
def wageofficeref02_two.f (a0 : Int) : Option (ByteArray) := some (strOfNums (([(wrap64 (48 + (wrap64 (Int.tdiv a0 10)))) % 256, (wrap64 (48 + (Int.tmod a0 10))) % 256] : List Int)))
set_option maxHeartbeats 8000000 in
set_option maxRecDepth 100000 in
theorem wageofficeref02_two.calls (a0 : Int) (r : ByteArray) (w : World) (h : wageofficeref02_two.f a0 = some r) :
    Calls Tryd.prog 33 #[.int .i64 a0] w fun e w' => e = .returned (.string r) ∧ Below w.heap.size w w' := by
  have HB := Aside0.mk (Below.refl w.heap.size w)
  have H : (some (strOfNums (([(wrap64 (48 + (wrap64 (Int.tdiv a0 10)))) % 256, (wrap64 (48 + (Int.tmod a0 10))) % 256] : List Int)))) = some r := h
  clear h
  obtain ⟨y159, hy159⟩ : ∃ y_ : List Int, y_ = (([(wrap64 (48 + (wrap64 (Int.tdiv a0 10)))) % 256, (wrap64 (48 + (Int.tmod a0 10))) % 256] : List Int)) := ⟨_, rfl⟩
  replace H : (some (strOfNums y159)) = some r := by first | (rw [hy159]; with_reducible exact H) | (have H2_ := (Option.bind_some _ _).symm.trans H; rw [hy159]; with_reducible exact H2_) | (have H2_ := (Option.bind_some _ _).symm.trans H; with_reducible exact H2_) | with_reducible exact H | (rw [hy159]; exact H) | exact H
  have Ny159 := Aside0.mk hy159
  clear hy159
  obtain rfl := Option.some.inj H
  go_enter Tryd.func33, Tryd.ntmps33
  go_wp2_with (first | ((with_reducible refine gate_dst (N := 11) rfl ?_); refine Kd.R_lit (Kd.int .u8) _ 5 ?hg (N := 11) ?hd (xs := ([(wrap64 (48 + (wrap64 (Int.tdiv a0 10)))) % 256, (wrap64 (48 + (Int.tmod a0 10))) % 256] : List Int)) (inner := [.int .u8 ((wrap64 (48 + (wrap64 (Int.tdiv a0 10)))) % 256), .int .u8 ((wrap64 (48 + (Int.tmod a0 10))) % 256)]) (ok := fun _ => True) (okp := fun _ => True) ?hr ?hp (fun _ hk => hk) trivial (Below.refl _ _) (Nat.le_refl _) (by simp) ?_; (case hd => rfl); (case hg => rfl); (case hr => first | (go_simp; done) | (go_simp; rfl)); (case hp => exact (Reps.one (show Kd.M (Kd.int .u8) _ _ _ ((wrap64 (48 + (wrap64 (Int.tdiv a0 10)))) % 256) [.int .u8 ((wrap64 (48 + (wrap64 (Int.tdiv a0 10)))) % 256)] from rfl) (Reps.one (show Kd.M (Kd.int .u8) _ _ _ ((wrap64 (48 + (Int.tmod a0 10))) % 256) [.int .u8 ((wrap64 (48 + (Int.tmod a0 10))) % 256)] from rfl) (Reps.none _ _)))); intro v160 w2 ho3 hb hg_ hnew_; clear hg_ hnew_; (first | rw [← Ny159.out] at ho3 | (simp only [Int.reduceToNat] at ho3; rw [← Ny159.out] at ho3)); have n0_ := Aside0.mk (Kd.R_lower ho3 (below_size (by repeat (first | (with_reducible first | exact HB.out | apply below_alloc | apply pw_below_drewN | apply below_drew1) | exact HB.out)))); have n1_ := Aside0.mk (below_step (by repeat (first | (with_reducible first | exact HB.out | apply below_alloc | apply pw_below_drewN | apply below_drew1) | exact HB.out)) hb); clear HB; have HO161 := n0_; have HB := n1_; clear n0_ n1_; clear hb ho3; have hcv4 := own_string (P := Tryd.prog) Tryd.underlying41 Tryd.underlying5 Tryd.underlying9 (Kd.own_of_R HO161.out)))
  go_ret
  exact ⟨by first | rfl | (simp [errW_none, errW_some] <;> rfl) | (simp [*, errW_none, errW_some] <;> rfl), by repeat (first | (with_reducible first | exact HB.out | apply below_alloc | apply pw_below_drewN | apply below_drew1) | exact HB.out)⟩

end Go.Proofs.YthakhcnpiobpgaaDoor.PAll
