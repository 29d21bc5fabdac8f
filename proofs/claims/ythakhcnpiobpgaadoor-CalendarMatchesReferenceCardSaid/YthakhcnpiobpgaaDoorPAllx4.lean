-- Written by myprint.py over the kit's print.py (a printed text of this session's own make).
import Derived.Test.YthakhcnpiobpgaaDoorPAllx0
import Derived.Test.YthakhcnpiobpgaaDoorPAllx2
import Derived.Test.YthakhcnpiobpgaaDoorPAllx3
namespace Go.Proofs.YthakhcnpiobpgaaDoor.PAll
open Go.Proofs.YthakhcnpiobpgaaDoor.Stub Go.Proofs.YthakhcnpiobpgaaDoor.CalA
open Go.RowKit Go.Proofs.YthakhcnpiobpgaaDoorW.PrintWords Go.Proofs.YthakhcnpiobpgaaDoorW.PrintLast Go.Proofs.YthakhcnpiobpgaaDoorW.PrintMore
attribute [local go_sem] max2_int min2_int max_two min_two max_three min_three max_four min_four   -- for this text's walks alone
set_option linter.unusedVariables false
set_option linter.unusedSimpArgs false

/-! ### wageofficeref02_Text: function 20 -/
def wageofficeref02_Text.f (k : Nat) (a0 : Int) : Option (ByteArray) := (wageofficeref02_Date.f k a0).bind fun bt162 => (if bt162.1 = 0 then (some (⟨#[]⟩ : ByteArray)) else ((wageofficeref02_two.f (wrap64 (Int.tdiv bt162.1 100))).bind fun t165 => ((wageofficeref02_two.f (Int.tmod bt162.1 100)).bind fun t166 => (if t165.size + t166.size ≤ 9223372036854775807 then (if t165.size + t166.size + 1 ≤ 9223372036854775807 then ((wageofficeref02_two.f bt162.2.1).bind fun t167 => (if t165.size + t166.size + 1 + t167.size ≤ 9223372036854775807 then (if t165.size + t166.size + 1 + t167.size + 1 ≤ 9223372036854775807 then ((wageofficeref02_two.f bt162.2.2).bind fun t168 => (if t165.size + t166.size + 1 + t167.size + 1 + t168.size ≤ 9223372036854775807 then (some (((((t165 ++ t166) ++ (⟨#[45]⟩ : ByteArray)) ++ t167) ++ (⟨#[45]⟩ : ByteArray)) ++ t168)) else (none))) else (none)) else (none))) else (none)) else (none)))))
theorem wageofficeref02_Text.mono : ∀ a0 k, LeO (wageofficeref02_Text.f k a0) (wageofficeref02_Text.f (k + 1) a0) := by
  intro a0 k
  unfold wageofficeref02_Text.f
  repeat' first
      | (with_reducible exact wageofficeref02_Date.mono _ _)
      | (with_reducible exact LeO.refl _)
      | (with_reducible exact LeO.none _)
      | (with_reducible refine LeO.ite ?_ ?_)
      | (with_reducible refine LeO.bind ?_ (fun _ => ?_))
      | exact wageofficeref02_Date.mono _ _
      | exact LeO.none _
      | refine LeO.ite ?_ ?_
      | refine LeO.bind ?_ (fun _ => ?_)
set_option maxHeartbeats 8000000 in
set_option maxRecDepth 100000 in
theorem wageofficeref02_Text.calls (k : Nat) (a0 : Int) (r : ByteArray) (w : World) (h : wageofficeref02_Text.f k a0 = some r) :
    Calls Tryd.prog 20 #[.int .i64 a0] w fun e w' => e = .returned (.string r) ∧ Below w.heap.size w w' := by
  have HB := Aside0.mk (Below.refl w.heap.size w)
  have H : ((wageofficeref02_Date.f k a0).bind fun bt162 => (if bt162.1 = 0 then (some (⟨#[]⟩ : ByteArray)) else ((wageofficeref02_two.f (wrap64 (Int.tdiv bt162.1 100))).bind fun t165 => ((wageofficeref02_two.f (Int.tmod bt162.1 100)).bind fun t166 => (if t165.size + t166.size ≤ 9223372036854775807 then (if t165.size + t166.size + 1 ≤ 9223372036854775807 then ((wageofficeref02_two.f bt162.2.1).bind fun t167 => (if t165.size + t166.size + 1 + t167.size ≤ 9223372036854775807 then (if t165.size + t166.size + 1 + t167.size + 1 ≤ 9223372036854775807 then ((wageofficeref02_two.f bt162.2.2).bind fun t168 => (if t165.size + t166.size + 1 + t167.size + 1 + t168.size ≤ 9223372036854775807 then (some (((((t165 ++ t166) ++ (⟨#[45]⟩ : ByteArray)) ++ t167) ++ (⟨#[45]⟩ : ByteArray)) ++ t168)) else (none))) else (none)) else (none))) else (none)) else (none)))))) = some r := h
  clear h
  replace H := Option.bind_eq_some_iff.mp H
  obtain ⟨⟨t162, t163, t164⟩, A20, H⟩ := H
  replace H : (if t162 = 0 then (some (⟨#[]⟩ : ByteArray)) else ((wageofficeref02_two.f (wrap64 (Int.tdiv t162 100))).bind fun t165 => ((wageofficeref02_two.f (Int.tmod t162 100)).bind fun t166 => (if t165.size + t166.size ≤ 9223372036854775807 then (if t165.size + t166.size + 1 ≤ 9223372036854775807 then ((wageofficeref02_two.f t163).bind fun t167 => (if t165.size + t166.size + 1 + t167.size ≤ 9223372036854775807 then (if t165.size + t166.size + 1 + t167.size + 1 ≤ 9223372036854775807 then ((wageofficeref02_two.f t164).bind fun t168 => (if t165.size + t166.size + 1 + t167.size + 1 + t168.size ≤ 9223372036854775807 then (some (((((t165 ++ t166) ++ (⟨#[45]⟩ : ByteArray)) ++ t167) ++ (⟨#[45]⟩ : ByteArray)) ++ t168)) else (none))) else (none)) else (none))) else (none)) else (none))))) = some r := H
  have A2 := Aside0.mk A20
  clear A20
  by_cases c3 : t162 = 0
  · rw [if_pos c3] at H
    have c3b0 : (t162 == 0) = true := beq_iff_eq.mpr c3
    have c3b1 : (t162 != 0) = false := bne_eq_false_iff_eq.mpr c3
    clear c3
    obtain rfl := Option.some.inj H
    go_enter Tryd.func20, Tryd.ntmps20
    go_wp2_with (first | ((with_reducible refine gate_callee (f := 12) rfl ?_); refine goesL_ (some 8) rfl rfl Tryd.func12 (by kernel_rfl) rfl #[.int .i64 a0] rfl (by (try simp only [List.map_toArray, List.map_cons, List.map_nil]); first | done | rfl | (simp only [List.length_drop, List.length_take]; rfl)) ?_; (with_reducible refine (wageofficeref02_Date.calls k a0 t162 t163 t164 _ A2.out).mono ?_); rintro e w' ⟨rfl, ⟨nd, rfl⟩⟩; refine ⟨_, rfl, ?_⟩))
    go_ret
    exact ⟨by first | rfl | (simp [errW_none, errW_some] <;> rfl) | (simp [*, errW_none, errW_some] <;> rfl), by repeat (first | (with_reducible first | exact HB.out | apply below_alloc | apply pw_below_drewN | apply below_drew1) | exact HB.out)⟩
  · rw [if_neg c3] at H
    have c3b0 : (t162 == 0) = false := beq_eq_false_iff_ne.mpr c3
    have c3b1 : (t162 != 0) = true := bne_iff_ne.mpr c3
    replace H := Option.bind_eq_some_iff.mp H
    obtain ⟨t165, A40, H⟩ := H
    replace H : ((wageofficeref02_two.f (Int.tmod t162 100)).bind fun t166 => (if t165.size + t166.size ≤ 9223372036854775807 then (if t165.size + t166.size + 1 ≤ 9223372036854775807 then ((wageofficeref02_two.f t163).bind fun t167 => (if t165.size + t166.size + 1 + t167.size ≤ 9223372036854775807 then (if t165.size + t166.size + 1 + t167.size + 1 ≤ 9223372036854775807 then ((wageofficeref02_two.f t164).bind fun t168 => (if t165.size + t166.size + 1 + t167.size + 1 + t168.size ≤ 9223372036854775807 then (some (((((t165 ++ t166) ++ (⟨#[45]⟩ : ByteArray)) ++ t167) ++ (⟨#[45]⟩ : ByteArray)) ++ t168)) else (none))) else (none)) else (none))) else (none)) else (none))) = some r := H
    have A4 := Aside0.mk A40
    clear A40
    replace H := Option.bind_eq_some_iff.mp H
    obtain ⟨t166, A50, H⟩ := H
    replace H : (if t165.size + t166.size ≤ 9223372036854775807 then (if t165.size + t166.size + 1 ≤ 9223372036854775807 then ((wageofficeref02_two.f t163).bind fun t167 => (if t165.size + t166.size + 1 + t167.size ≤ 9223372036854775807 then (if t165.size + t166.size + 1 + t167.size + 1 ≤ 9223372036854775807 then ((wageofficeref02_two.f t164).bind fun t168 => (if t165.size + t166.size + 1 + t167.size + 1 + t168.size ≤ 9223372036854775807 then (some (((((t165 ++ t166) ++ (⟨#[45]⟩ : ByteArray)) ++ t167) ++ (⟨#[45]⟩ : ByteArray)) ++ t168)) else (none))) else (none)) else (none))) else (none)) else (none)) = some r := H
    have A5 := Aside0.mk A50
    clear A50
    by_cases c6 : t165.size + t166.size ≤ 9223372036854775807
    · rw [if_pos c6] at H
      have c6b0 := eq_true c6
      have c6b1 : decide (t165.size + t166.size ≤ 9223372036854775807) = true := decide_eq_true c6
      try have c6b2 : (9223372036854775807 < t165.size + t166.size) = False := eq_false (Nat.not_lt.2 c6)
      by_cases c7 : t165.size + t166.size + 1 ≤ 9223372036854775807
      · rw [if_pos c7] at H
        have c7b0 := eq_true c7
        have c7b1 : decide (t165.size + t166.size + 1 ≤ 9223372036854775807) = true := decide_eq_true c7
        try have c7b2 : (9223372036854775807 < t165.size + t166.size + 1) = False := eq_false (Nat.not_lt.2 c7)
        replace H := Option.bind_eq_some_iff.mp H
        obtain ⟨t167, A80, H⟩ := H
        replace H : (if t165.size + t166.size + 1 + t167.size ≤ 9223372036854775807 then (if t165.size + t166.size + 1 + t167.size + 1 ≤ 9223372036854775807 then ((wageofficeref02_two.f t164).bind fun t168 => (if t165.size + t166.size + 1 + t167.size + 1 + t168.size ≤ 9223372036854775807 then (some (((((t165 ++ t166) ++ (⟨#[45]⟩ : ByteArray)) ++ t167) ++ (⟨#[45]⟩ : ByteArray)) ++ t168)) else (none))) else (none)) else (none)) = some r := H
        have A8 := Aside0.mk A80
        clear A80
        by_cases c9 : t165.size + t166.size + 1 + t167.size ≤ 9223372036854775807
        · rw [if_pos c9] at H
          have c9b0 := eq_true c9
          have c9b1 : decide (t165.size + t166.size + 1 + t167.size ≤ 9223372036854775807) = true := decide_eq_true c9
          try have c9b2 : (9223372036854775807 < t165.size + t166.size + 1 + t167.size) = False := eq_false (Nat.not_lt.2 c9)
          by_cases c10 : t165.size + t166.size + 1 + t167.size + 1 ≤ 9223372036854775807
          · rw [if_pos c10] at H
            have c10b0 := eq_true c10
            have c10b1 : decide (t165.size + t166.size + 1 + t167.size + 1 ≤ 9223372036854775807) = true := decide_eq_true c10
            try have c10b2 : (9223372036854775807 < t165.size + t166.size + 1 + t167.size + 1) = False := eq_false (Nat.not_lt.2 c10)
            replace H := Option.bind_eq_some_iff.mp H
            obtain ⟨t168, A110, H⟩ := H
            replace H : (if t165.size + t166.size + 1 + t167.size + 1 + t168.size ≤ 9223372036854775807 then (some (((((t165 ++ t166) ++ (⟨#[45]⟩ : ByteArray)) ++ t167) ++ (⟨#[45]⟩ : ByteArray)) ++ t168)) else (none)) = some r := H
            have A11 := Aside0.mk A110
            clear A110
            by_cases c12 : t165.size + t166.size + 1 + t167.size + 1 + t168.size ≤ 9223372036854775807
            · rw [if_pos c12] at H
              have c12b0 := eq_true c12
              have c12b1 : decide (t165.size + t166.size + 1 + t167.size + 1 + t168.size ≤ 9223372036854775807) = true := decide_eq_true c12
              try have c12b2 : (9223372036854775807 < t165.size + t166.size + 1 + t167.size + 1 + t168.size) = False := eq_false (Nat.not_lt.2 c12)
              obtain rfl := Option.some.inj H
              go_enter Tryd.func20, Tryd.ntmps20
              go_wp2_with (first | ((with_reducible refine gate_callee (f := 12) rfl ?_); refine goesL_ (some 8) rfl rfl Tryd.func12 (by kernel_rfl) rfl #[.int .i64 a0] rfl (by (try simp only [List.map_toArray, List.map_cons, List.map_nil]); first | done | rfl | (simp only [List.length_drop, List.length_take]; rfl)) ?_; (with_reducible refine (wageofficeref02_Date.calls k a0 t162 t163 t164 _ A2.out).mono ?_); rintro e w' ⟨rfl, ⟨nd, rfl⟩⟩; refine ⟨_, rfl, ?_⟩) | ((with_reducible refine gate_callee (f := 33) rfl ?_); refine goesL_ (some 16) rfl rfl Tryd.func33 (by kernel_rfl) rfl #[.int .i64 (wrap64 (Int.tdiv t162 100))] rfl (by (try simp only [List.map_toArray, List.map_cons, List.map_nil]); first | done | rfl | (simp only [List.length_drop, List.length_take]; rfl)) ?_; (with_reducible refine (wageofficeref02_two.calls (wrap64 (Int.tdiv t162 100)) t165 _ A4.out).mono ?_); rintro e w13 ⟨rfl, hb⟩; refine ⟨_, rfl, ?_⟩; have n0_ := Aside0.mk (below_step (by repeat (first | (with_reducible first | exact HB.out | apply below_alloc | apply pw_below_drewN | apply below_drew1) | exact HB.out)) hb); clear HB; have HB := n0_; clear n0_; (try clear hb); (try clear hb2); (try clear hk); (try clear hi)) | ((with_reducible refine gate_callee (f := 33) rfl ?_); refine goesL_ (some 19) rfl rfl Tryd.func33 (by kernel_rfl) rfl #[.int .i64 (Int.tmod t162 100)] rfl (by (try simp only [List.map_toArray, List.map_cons, List.map_nil]); first | done | rfl | (simp only [List.length_drop, List.length_take]; rfl)) ?_; (with_reducible refine (wageofficeref02_two.calls (Int.tmod t162 100) t166 _ A5.out).mono ?_); rintro e w14 ⟨rfl, hb⟩; refine ⟨_, rfl, ?_⟩; have n0_ := Aside0.mk (below_step (by repeat (first | (with_reducible first | exact HB.out | apply below_alloc | apply pw_below_drewN | apply below_drew1) | exact HB.out)) hb); clear HB; have HB := n0_; clear n0_; (try clear hb); (try clear hb2); (try clear hk); (try clear hi)) | ((with_reducible refine gate_callee (f := 33) rfl ?_); refine goesL_ (some 23) rfl rfl Tryd.func33 (by kernel_rfl) rfl #[.int .i64 t163] rfl (by (try simp only [List.map_toArray, List.map_cons, List.map_nil]); first | done | rfl | (simp only [List.length_drop, List.length_take]; rfl)) ?_; (with_reducible refine (wageofficeref02_two.calls t163 t167 _ A8.out).mono ?_); rintro e w15 ⟨rfl, hb⟩; refine ⟨_, rfl, ?_⟩; have n0_ := Aside0.mk (below_step (by repeat (first | (with_reducible first | exact HB.out | apply below_alloc | apply pw_below_drewN | apply below_drew1) | exact HB.out)) hb); clear HB; have HB := n0_; clear n0_; (try clear hb); (try clear hb2); (try clear hk); (try clear hi)) | ((with_reducible refine gate_callee (f := 33) rfl ?_); refine goesL_ (some 27) rfl rfl Tryd.func33 (by kernel_rfl) rfl #[.int .i64 t164] rfl (by (try simp only [List.map_toArray, List.map_cons, List.map_nil]); first | done | rfl | (simp only [List.length_drop, List.length_take]; rfl)) ?_; (with_reducible refine (wageofficeref02_two.calls t164 t168 _ A11.out).mono ?_); rintro e w16 ⟨rfl, hb⟩; refine ⟨_, rfl, ?_⟩; have n0_ := Aside0.mk (below_step (by repeat (first | (with_reducible first | exact HB.out | apply below_alloc | apply pw_below_drewN | apply below_drew1) | exact HB.out)) hb); clear HB; have HB := n0_; clear n0_; (try clear hb); (try clear hb2); (try clear hk); (try clear hi)))
              go_ret
              exact ⟨by first | rfl | (simp [errW_none, errW_some] <;> rfl) | (simp [*, errW_none, errW_some] <;> rfl), by repeat (first | (with_reducible first | exact HB.out | apply below_alloc | apply pw_below_drewN | apply below_drew1) | exact HB.out)⟩
            · rw [if_neg c12] at H
              exact absurd H (by simp)
          · rw [if_neg c10] at H
            exact absurd H (by simp)
        · rw [if_neg c9] at H
          exact absurd H (by simp)
      · rw [if_neg c7] at H
        exact absurd H (by simp)
    · rw [if_neg c6] at H
      exact absurd H (by simp)

/-! ### wageofficeref02_Day: function 26 -/
def wageofficeref02_Day.f (k : Nat) (a0 : Int) (a1 : Int) (a2 : Int) : Option (Int × Int) := if a0 < 2000 then (some (0, 21)) else (if a0 > 2099 then (some (0, 21)) else (if a1 < 1 then (some (0, 21)) else (if a1 > 12 then (some (0, 21)) else (if a2 < 1 then (some (0, 21)) else ((wageofficeref02_Days.f k a0 a1).bind fun t169 => (if a2 > t169 then (some (0, 21)) else ((wageofficeref02_First.f k (wrap64 ((wrap64 ((wrap64 ((wrap64 (a0 - 2000)) * 12)) + a1)) - 1))).bind fun t170 => (some (wrap64 ((wrap64 (t170 + a2)) - 1), 0)))))))))
theorem wageofficeref02_Day.mono : ∀ a0 a1 a2 k, LeO (wageofficeref02_Day.f k a0 a1 a2) (wageofficeref02_Day.f (k + 1) a0 a1 a2) := by
  intro a0 a1 a2 k
  unfold wageofficeref02_Day.f
  repeat' first
      | (with_reducible exact wageofficeref02_Days.mono _ _ _)
      | (with_reducible exact wageofficeref02_First.mono _ _)
      | (with_reducible exact LeO.refl _)
      | (with_reducible exact LeO.none _)
      | (with_reducible refine LeO.ite ?_ ?_)
      | (with_reducible refine LeO.bind ?_ (fun _ => ?_))
      | exact wageofficeref02_Days.mono _ _ _
      | exact wageofficeref02_First.mono _ _
      | exact LeO.none _
      | refine LeO.ite ?_ ?_
      | refine LeO.bind ?_ (fun _ => ?_)
set_option maxHeartbeats 8000000 in
set_option maxRecDepth 100000 in
theorem wageofficeref02_Day.calls (k : Nat) (a0 : Int) (a1 : Int) (a2 : Int) (r1 : Int) (r2 : Int) (w : World) (h : wageofficeref02_Day.f k a0 a1 a2 = some (r1, r2)) :
    Calls Tryd.prog 26 #[.int .i64 a0, .int .i64 a1, .int .i64 a2] w fun e w' => e = .returned (.tuple #[.int .i64 r1, .int .i64 r2]) ∧ Drawn0 w w' := by
  have H : (if a0 < 2000 then (some (0, 21)) else (if a0 > 2099 then (some (0, 21)) else (if a1 < 1 then (some (0, 21)) else (if a1 > 12 then (some (0, 21)) else (if a2 < 1 then (some (0, 21)) else ((wageofficeref02_Days.f k a0 a1).bind fun t169 => (if a2 > t169 then (some (0, 21)) else ((wageofficeref02_First.f k (wrap64 ((wrap64 ((wrap64 ((wrap64 (a0 - 2000)) * 12)) + a1)) - 1))).bind fun t170 => (some (wrap64 ((wrap64 (t170 + a2)) - 1), 0)))))))))) = some (r1, r2) := h
  clear h
  by_cases c4 : a0 < 2000
  · rw [if_pos c4] at H
    have c4b0 : decide (a0 < 2000) = true := decide_eq_true c4
    clear c4
    simp only [Option.some.injEq, Prod.mk.injEq] at H
    obtain ⟨rfl, rfl⟩ := H
    go_enter Tryd.func26, Tryd.ntmps26
    go_wp2
    go_ret2
    exact ⟨by first | rfl | (simp; done) | (simp [*]; done), by repeat (first | exact Drawn0.refl _ | apply Drawn0.step)⟩
  · rw [if_neg c4] at H
    have c4b0 : decide (a0 < 2000) = false := decide_eq_false c4
    clear c4
    by_cases c5 : a0 > 2099
    · rw [if_pos c5] at H
      have c5b0 : decide (2099 < a0) = true := decide_eq_true c5
      clear c5
      simp only [Option.some.injEq, Prod.mk.injEq] at H
      obtain ⟨rfl, rfl⟩ := H
      go_enter Tryd.func26, Tryd.ntmps26
      go_wp2
      go_ret2
      exact ⟨by first | rfl | (simp; done) | (simp [*]; done), by repeat (first | exact Drawn0.refl _ | apply Drawn0.step)⟩
    · rw [if_neg c5] at H
      have c5b0 : decide (2099 < a0) = false := decide_eq_false c5
      clear c5
      by_cases c6 : a1 < 1
      · rw [if_pos c6] at H
        have c6b0 : decide (a1 < 1) = true := decide_eq_true c6
        clear c6
        simp only [Option.some.injEq, Prod.mk.injEq] at H
        obtain ⟨rfl, rfl⟩ := H
        go_enter Tryd.func26, Tryd.ntmps26
        go_wp2
        go_ret2
        exact ⟨by first | rfl | (simp; done) | (simp [*]; done), by repeat (first | exact Drawn0.refl _ | apply Drawn0.step)⟩
      · rw [if_neg c6] at H
        have c6b0 : decide (a1 < 1) = false := decide_eq_false c6
        clear c6
        by_cases c7 : a1 > 12
        · rw [if_pos c7] at H
          have c7b0 : decide (12 < a1) = true := decide_eq_true c7
          clear c7
          simp only [Option.some.injEq, Prod.mk.injEq] at H
          obtain ⟨rfl, rfl⟩ := H
          go_enter Tryd.func26, Tryd.ntmps26
          go_wp2
          go_ret2
          exact ⟨by first | rfl | (simp; done) | (simp [*]; done), by repeat (first | exact Drawn0.refl _ | apply Drawn0.step)⟩
        · rw [if_neg c7] at H
          have c7b0 : decide (12 < a1) = false := decide_eq_false c7
          clear c7
          by_cases c8 : a2 < 1
          · rw [if_pos c8] at H
            have c8b0 : decide (a2 < 1) = true := decide_eq_true c8
            clear c8
            simp only [Option.some.injEq, Prod.mk.injEq] at H
            obtain ⟨rfl, rfl⟩ := H
            go_enter Tryd.func26, Tryd.ntmps26
            go_wp2
            go_ret2
            exact ⟨by first | rfl | (simp; done) | (simp [*]; done), by repeat (first | exact Drawn0.refl _ | apply Drawn0.step)⟩
          · rw [if_neg c8] at H
            have c8b0 : decide (a2 < 1) = false := decide_eq_false c8
            clear c8
            replace H := Option.bind_eq_some_iff.mp H
            obtain ⟨t169, A90, H⟩ := H
            replace H : (if a2 > t169 then (some (0, 21)) else ((wageofficeref02_First.f k (wrap64 ((wrap64 ((wrap64 ((wrap64 (a0 - 2000)) * 12)) + a1)) - 1))).bind fun t170 => (some (wrap64 ((wrap64 (t170 + a2)) - 1), 0)))) = some (r1, r2) := H
            have A9 := Aside0.mk A90
            clear A90
            by_cases c10 : a2 > t169
            · rw [if_pos c10] at H
              have c10b0 : decide (t169 < a2) = true := decide_eq_true c10
              clear c10
              simp only [Option.some.injEq, Prod.mk.injEq] at H
              obtain ⟨rfl, rfl⟩ := H
              go_enter Tryd.func26, Tryd.ntmps26
              go_wp2_with (first | (go_at_call 29; (with_reducible refine (wageofficeref02_Days.calls k a0 a1 t169 _ A9.out).mono ?_); rintro e w' ⟨rfl, ⟨nd, rfl⟩⟩))
              go_ret2
              exact ⟨by first | rfl | (simp; done) | (simp [*]; done), by repeat (first | exact Drawn0.refl _ | apply Drawn0.step)⟩
            · rw [if_neg c10] at H
              have c10b0 : decide (t169 < a2) = false := decide_eq_false c10
              clear c10
              replace H := Option.bind_eq_some_iff.mp H
              obtain ⟨t170, A110, H⟩ := H
              replace H : (some (wrap64 ((wrap64 (t170 + a2)) - 1), 0)) = some (r1, r2) := H
              have A11 := Aside0.mk A110
              clear A110
              simp only [Option.some.injEq, Prod.mk.injEq] at H
              obtain ⟨rfl, rfl⟩ := H
              go_enter Tryd.func26, Tryd.ntmps26
              go_wp2_with (first | (go_at_call 29; (with_reducible refine (wageofficeref02_Days.calls k a0 a1 t169 _ A9.out).mono ?_); rintro e w' ⟨rfl, ⟨nd, rfl⟩⟩) | ((with_reducible refine gate_callee (f := 22) rfl ?_); refine goesL_ (some 39) rfl rfl Tryd.func22 (by kernel_rfl) rfl #[.int .i64 (wrap64 ((wrap64 ((wrap64 ((wrap64 (a0 - 2000)) * 12)) + a1)) - 1))] rfl (by (try simp only [List.map_toArray, List.map_cons, List.map_nil]); first | done | rfl | (simp only [List.length_drop, List.length_take]; rfl)) ?_; (with_reducible refine (wageofficeref02_First.calls k (wrap64 ((wrap64 ((wrap64 ((wrap64 (a0 - 2000)) * 12)) + a1)) - 1)) t170 _ A11.out).mono ?_); rintro e w' ⟨rfl, ⟨nd, rfl⟩⟩; refine ⟨_, rfl, ?_⟩))
              go_ret2
              exact ⟨by first | rfl | (simp; done) | (simp [*]; done), by repeat (first | exact Drawn0.refl _ | apply Drawn0.step)⟩

/-! ### wageofficeref02_number: function 35 -/
def wageofficeref02_number.l0 : Nat → ByteArray → Int → Int → Int → Option (Int × Bool)
  | 0, _, _, _, _ => none
  | k + 1, x0, x2, x8, x9 => if x9 < x2 then (if 0 ≤ x9 then (if x9 < (x0.size : Int) then (if (bt x0 x9) < 48 then (some (0, false)) else (if (bt x0 x9) > 57 then (some (0, false)) else (wageofficeref02_number.l0 k x0 x2 (wrap64 ((wrap64 ((wrap64 (10 * x8)) + (wrap64 (bt x0 x9)))) - 48)) (wrap64 (x9 + 1))))) else (none)) else (none)) else (some (x8, true))
def wageofficeref02_number.f (k : Nat) (a0 : ByteArray) (a1 : Int) (a2 : Int) : Option (Int × Bool) := wageofficeref02_number.l0 k a0 a2 0 a1
theorem wageofficeref02_number.mono_l : ∀ k, (∀ y0 y1 y2 y3, LeO (wageofficeref02_number.l0 k y0 y1 y2 y3) (wageofficeref02_number.l0 (k + 1) y0 y1 y2 y3))
  | 0 => fun _ _ _ _ r h => by simp [wageofficeref02_number.l0] at h
  | k + 1 => by
    have ih0 := wageofficeref02_number.mono_l k
    · intro y0 y1 y2 y3
      unfold wageofficeref02_number.l0
      repeat' first
      | (with_reducible exact ih0 _ _ _ _)
      | (with_reducible exact LeO.refl _)
      | (with_reducible exact LeO.none _)
      | (with_reducible refine LeO.ite ?_ ?_)
      | (with_reducible refine LeO.bind ?_ (fun _ => ?_))
      | exact ih0 _ _ _ _
      | exact LeO.none _
      | refine LeO.ite ?_ ?_
      | refine LeO.bind ?_ (fun _ => ?_)
theorem wageofficeref02_number.mono : ∀ a0 a1 a2 k, LeO (wageofficeref02_number.f k a0 a1 a2) (wageofficeref02_number.f (k + 1) a0 a1 a2) := by
  intro a0 a1 a2 k
  have ih0 := wageofficeref02_number.mono_l k
  unfold wageofficeref02_number.f
  repeat' first
      | (with_reducible exact ih0 _ _ _ _)
      | (with_reducible exact LeO.refl _)
      | (with_reducible exact LeO.none _)
      | (with_reducible refine LeO.ite ?_ ?_)
      | (with_reducible refine LeO.bind ?_ (fun _ => ?_))
      | exact ih0 _ _ _ _
      | exact LeO.none _
      | refine LeO.ite ?_ ?_
      | refine LeO.bind ?_ (fun _ => ?_)
set_option maxHeartbeats 8000000 in
set_option maxRecDepth 100000 in
theorem wageofficeref02_number.calls (k : Nat) (a0 : ByteArray) (a1 : Int) (a2 : Int) (r1 : Int) (r2 : Bool) (w : World) (h : wageofficeref02_number.f k a0 a1 a2 = some (r1, r2)) :
    Calls Tryd.prog 35 #[.string a0, .int .i64 a1, .int .i64 a2] w fun e w' => e = .returned (.tuple #[.int .i64 r1, .bool r2]) ∧ Drawn0 w w' := by
  have H : (wageofficeref02_number.l0 k a0 a2 0 a1) = some (r1, r2) := h
  clear h
  have H' := Aside0.mk H
  clear H
  go_enter Tryd.func35, Tryd.ntmps35
  go_wp2
  go_loopg [8, 9] k (fun kq v8 v9 w' => ∃ (x8_1 : Int) (x9_1 : Int), v8 = .int .i64 x8_1 ∧ v9 = .int .i64 x9_1 ∧ Aside0 (wageofficeref02_number.l0 kq a0 a2 x8_1 x9_1 = some (r1, r2)) ∧ Aside0 (kq ≤ k) ∧ Drawn0 w w')
  case atStart => exact ⟨(0), (a1), (by first | rfl | (simp; done) | (simp [*]; done)), (by first | rfl | (simp; done) | (simp [*]; done)), H', ⟨Nat.le_refl _⟩, by repeat (first | exact Drawn0.refl _ | apply Drawn0.step)⟩
  case round =>
    clear H'
    try clear p2
    try clear c3
    obtain ⟨x8_1, x9_1, rfl, rfl, HA, HK1, ⟨m1, rfl⟩⟩ := hrel
    cases gk with
    | zero => exact absurd HA.out (by simp [wageofficeref02_number.l0])
    | succ k1 =>
      have H := HA.out
      clear HA
      simp only [wageofficeref02_number.l0] at H
      by_cases c4 : x9_1 < a2
      · rw [if_pos c4] at H
        have c4b0 : decide (x9_1 < a2) = true := decide_eq_true c4
        clear c4
        by_cases c5 : 0 ≤ x9_1
        · rw [if_pos c5] at H
          have c5b0 : decide (0 ≤ x9_1) = true := decide_eq_true c5
          clear c5
          by_cases c6 : x9_1 < (a0.size : Int)
          · rw [if_pos c6] at H
            have c6b0 : decide (x9_1 < (a0.size : Int)) = true := decide_eq_true c6
            clear c6
            by_cases c8 : (bt a0 x9_1) < 48
            · rw [if_pos c8] at H
              have c8b0 : decide ((bt a0 x9_1) < 48) = true := decide_eq_true c8
              clear c8
              simp only [Option.some.injEq, Prod.mk.injEq] at H
              obtain ⟨rfl, rfl⟩ := H
              have p7 : 0 ≤ (x9_1 : Int) := of_decide_eq_true (by first | (with_reducible assumption) | assumption)
              have q7 : x9_1 < (a0.size : Int) := of_decide_eq_true (by first | (with_reducible assumption) | assumption)
              have hx7 := bt_at a0 x9_1
              replace p7 := eq_true p7
              replace q7 := eq_true q7
              go_wp2
              go_ret2
              exact ⟨by first | rfl | (simp; done) | (simp [*]; done), by repeat (first | exact Drawn0.refl _ | apply Drawn0.step)⟩
            · rw [if_neg c8] at H
              have c8b0 : decide ((bt a0 x9_1) < 48) = false := decide_eq_false c8
              clear c8
              by_cases c10 : (bt a0 x9_1) > 57
              · rw [if_pos c10] at H
                have c10b0 : decide (57 < (bt a0 x9_1)) = true := decide_eq_true c10
                clear c10
                simp only [Option.some.injEq, Prod.mk.injEq] at H
                obtain ⟨rfl, rfl⟩ := H
                have p7 : 0 ≤ (x9_1 : Int) := of_decide_eq_true (by first | (with_reducible assumption) | assumption)
                have q7 : x9_1 < (a0.size : Int) := of_decide_eq_true (by first | (with_reducible assumption) | assumption)
                have hx7 := bt_at a0 x9_1
                replace p7 := eq_true p7
                replace q7 := eq_true q7
                have p9 : 0 ≤ (x9_1 : Int) := of_decide_eq_true (by first | (with_reducible assumption) | assumption)
                have q9 : x9_1 < (a0.size : Int) := of_decide_eq_true (by first | (with_reducible assumption) | assumption)
                have hx9 := bt_at a0 x9_1
                replace p9 := eq_true p9
                replace q9 := eq_true q9
                go_wp2
                go_ret2
                exact ⟨by first | rfl | (simp; done) | (simp [*]; done), by repeat (first | exact Drawn0.refl _ | apply Drawn0.step)⟩
              · rw [if_neg c10] at H
                have c10b0 : decide (57 < (bt a0 x9_1)) = false := decide_eq_false c10
                clear c10
                have H' := Aside0.mk H
                clear H
                have p7 : 0 ≤ (x9_1 : Int) := of_decide_eq_true (by first | (with_reducible assumption) | assumption)
                have q7 : x9_1 < (a0.size : Int) := of_decide_eq_true (by first | (with_reducible assumption) | assumption)
                have hx7 := bt_at a0 x9_1
                replace p7 := eq_true p7
                replace q7 := eq_true q7
                have p9 : 0 ≤ (x9_1 : Int) := of_decide_eq_true (by first | (with_reducible assumption) | assumption)
                have q9 : x9_1 < (a0.size : Int) := of_decide_eq_true (by first | (with_reducible assumption) | assumption)
                have hx9 := bt_at a0 x9_1
                replace p9 := eq_true p9
                replace q9 := eq_true q9
                have p11 : 0 ≤ (x9_1 : Int) := of_decide_eq_true (by first | (with_reducible assumption) | assumption)
                have q11 : x9_1 < (a0.size : Int) := of_decide_eq_true (by first | (with_reducible assumption) | assumption)
                have hx11 := bt_at a0 x9_1
                replace p11 := eq_true p11
                replace q11 := eq_true q11
                go_wp2
                go_roundg k1
                case measure => have := HK1.out; omega
                case rel => exact ⟨(wrap64 ((wrap64 ((wrap64 (10 * x8_1)) + (wrap64 (bt a0 x9_1)))) - 48)), (wrap64 (x9_1 + 1)), (by first | rfl | (simp; done) | (simp [*]; done)), (by first | rfl | (simp; done) | (simp [*]; done)), H', ⟨by have := HK1.out; omega⟩, by repeat (first | exact Drawn0.refl _ | apply Drawn0.step)⟩
          · rw [if_neg c6] at H
            exact absurd H (by simp)
        · rw [if_neg c5] at H
          exact absurd H (by simp)
      · rw [if_neg c4] at H
        have c4b0 : decide (x9_1 < a2) = false := decide_eq_false c4
        clear c4
        simp only [Option.some.injEq, Prod.mk.injEq] at H
        obtain ⟨rfl, rfl⟩ := H
        go_wp2
        go_ret2
        exact ⟨by first | rfl | (simp; done) | (simp [*]; done), by repeat (first | exact Drawn0.refl _ | apply Drawn0.step)⟩

/-! ### wageofficeref02_Parse: function 28 -/
def wageofficeref02_Parse.j0 : Nat → ByteArray → Bool → Option (Int × Int)
  | 0, _, _ => none
  | k + 1, x0, x22 => if x22 = true then (some (0, 12)) else ((wageofficeref02_number.f k x0 0 4).bind fun bt171 => ((wageofficeref02_number.f k x0 5 7).bind fun bt173 => ((wageofficeref02_number.f k x0 8 10).bind fun bt175 => (if bt171.2 = true then (if bt173.2 = true then (if bt175.2 = true then ((wageofficeref02_Day.f k bt171.1 bt173.1 bt175.1).bind fun bt177 => (some (bt177.1, bt177.2))) else (some (0, 12))) else (some (0, 12))) else (some (0, 12))))))
def wageofficeref02_Parse.f (k : Nat) (a0 : ByteArray) : Option (Int × Int) := if (a0.size : Int) = 10 then (if 4 < (a0.size : Int) then (if (bt a0 4) = 45 then (if 7 < (a0.size : Int) then (wageofficeref02_Parse.j0 k a0 ((bt a0 7) != 45)) else (none)) else (wageofficeref02_Parse.j0 k a0 true)) else (none)) else (wageofficeref02_Parse.j0 k a0 true)
theorem wageofficeref02_Parse.mono_l : ∀ k, (∀ y0 y1, LeO (wageofficeref02_Parse.j0 k y0 y1) (wageofficeref02_Parse.j0 (k + 1) y0 y1))
  | 0 => fun _ _ r h => by simp [wageofficeref02_Parse.j0] at h
  | k + 1 => by
    have ih0 := wageofficeref02_Parse.mono_l k
    · intro y0 y1
      unfold wageofficeref02_Parse.j0
      repeat' first
      | (with_reducible exact ih0 _ _)
      | (with_reducible exact wageofficeref02_Day.mono _ _ _ _)
      | (with_reducible exact wageofficeref02_number.mono _ _ _ _)
      | (with_reducible exact LeO.refl _)
      | (with_reducible exact LeO.none _)
      | (with_reducible refine LeO.ite ?_ ?_)
      | (with_reducible refine LeO.bind ?_ (fun _ => ?_))
      | exact ih0 _ _
      | exact wageofficeref02_Day.mono _ _ _ _
      | exact wageofficeref02_number.mono _ _ _ _
      | exact LeO.none _
      | refine LeO.ite ?_ ?_
      | refine LeO.bind ?_ (fun _ => ?_)
theorem wageofficeref02_Parse.mono : ∀ a0 k, LeO (wageofficeref02_Parse.f k a0) (wageofficeref02_Parse.f (k + 1) a0) := by
  intro a0 k
  have ih0 := wageofficeref02_Parse.mono_l k
  unfold wageofficeref02_Parse.f
  repeat' first
      | (with_reducible exact ih0 _ _)
      | (with_reducible exact wageofficeref02_Day.mono _ _ _ _)
      | (with_reducible exact wageofficeref02_number.mono _ _ _ _)
      | (with_reducible exact LeO.refl _)
      | (with_reducible exact LeO.none _)
      | (with_reducible refine LeO.ite ?_ ?_)
      | (with_reducible refine LeO.bind ?_ (fun _ => ?_))
      | exact ih0 _ _
      | exact wageofficeref02_Day.mono _ _ _ _
      | exact wageofficeref02_number.mono _ _ _ _
      | exact LeO.none _
      | refine LeO.ite ?_ ?_
      | refine LeO.bind ?_ (fun _ => ?_)
set_option maxHeartbeats 8000000 in
set_option maxRecDepth 100000 in
theorem wageofficeref02_Parse.calls (k : Nat) (a0 : ByteArray) (r1 : Int) (r2 : Int) (w : World) (h : wageofficeref02_Parse.f k a0 = some (r1, r2)) :
    Calls Tryd.prog 28 #[.string a0] w fun e w' => e = .returned (.tuple #[.int .i64 r1, .int .i64 r2]) ∧ Drawn0 w w' := by
  have H : (if (a0.size : Int) = 10 then (if 4 < (a0.size : Int) then (if (bt a0 4) = 45 then (if 7 < (a0.size : Int) then (wageofficeref02_Parse.j0 k a0 ((bt a0 7) != 45)) else (none)) else (wageofficeref02_Parse.j0 k a0 true)) else (none)) else (wageofficeref02_Parse.j0 k a0 true)) = some (r1, r2) := h
  clear h
  have HC2 := Aside0.mk H
  clear H
  go_enter Tryd.func28, Tryd.ntmps28
  go_upto_region 1 with (fail)
  go_cut [22] (fun v22 wc => ∃ (kq : Nat) (x22_1 : Bool), v22 = .bool x22_1 ∧ Aside0 (wageofficeref02_Parse.j0 kq a0 x22_1 = some (r1, r2)) ∧ Aside0 (kq ≤ k) ∧ Drawn0 w wc)
  case first =>
    have H := HC2.out
    clear HC2
    by_cases c3 : (a0.size : Int) = 10
    · rw [if_pos c3] at H
      have c3b0 : ((a0.size : Int) == 10) = true := beq_iff_eq.mpr c3
      have c3b1 : ((a0.size : Int) != 10) = false := bne_eq_false_iff_eq.mpr c3
      clear c3
      (first | rw [c3b0] | (simp only [i64_w, i32_w]; rw [c3b0]) | skip)
      by_cases c4 : 4 < (a0.size : Int)
      · rw [if_pos c4] at H
        have c4b0 : decide (4 < (a0.size : Int)) = true := decide_eq_true c4
        have c4b1 : decide (4 < a0.size) = true := decide_eq_true (by omega)
        clear c4
        by_cases c6 : (bt a0 4) = 45
        · rw [if_pos c6] at H
          have c6b0 : ((bt a0 4) == 45) = true := beq_iff_eq.mpr c6
          have c6b1 : ((bt a0 4) != 45) = false := bne_eq_false_iff_eq.mpr c6
          clear c6
          by_cases c7 : 7 < (a0.size : Int)
          · rw [if_pos c7] at H
            have c7b0 : decide (7 < (a0.size : Int)) = true := decide_eq_true c7
            have c7b1 : decide (7 < a0.size) = true := decide_eq_true (by omega)
            clear c7
            have H' := Aside0.mk H
            clear H
            have p5 : 0 ≤ (4 : Int) := (by omega)
            have q5 : 4 < a0.size := (by have : (4 : Int) < (a0.size : Int) := of_decide_eq_true (by first | (with_reducible assumption) | assumption); omega)
            have hx5 : ∀ h : 4 < a0.size, ((a0[4]'h).toNat : Int) = bt a0 4 := bt_at a0 4
            clear p5
            have qi5 : (4 < (a0.size : Int)) = True := eq_true (of_decide_eq_true (by first | (with_reducible assumption) | assumption))
            replace q5 := eq_true q5
            have p8 : 0 ≤ (7 : Int) := (by omega)
            have q8 : 7 < a0.size := (by have : (7 : Int) < (a0.size : Int) := of_decide_eq_true (by first | (with_reducible assumption) | assumption); omega)
            have hx8 : ∀ h : 7 < a0.size, ((a0[7]'h).toNat : Int) = bt a0 7 := bt_at a0 7
            clear p8
            have qi8 : (7 < (a0.size : Int)) = True := eq_true (of_decide_eq_true (by first | (with_reducible assumption) | assumption))
            replace q8 := eq_true q8
            go_wp2
            go_meet
            case rel => exact ⟨_, (((bt a0 7) != 45)), (by first | rfl | (simp; done) | (simp [*]; done)), H', ⟨by first | omega | exact Nat.le_refl _⟩, by repeat (first | exact Drawn0.refl _ | apply Drawn0.step)⟩
          · rw [if_neg c7] at H
            exact absurd H (by simp)
        · rw [if_neg c6] at H
          have c6b0 : ((bt a0 4) == 45) = false := beq_eq_false_iff_ne.mpr c6
          have c6b1 : ((bt a0 4) != 45) = true := bne_iff_ne.mpr c6
          have H' := Aside0.mk H
          clear H
          have p5 : 0 ≤ (4 : Int) := (by omega)
          have q5 : 4 < a0.size := (by have : (4 : Int) < (a0.size : Int) := of_decide_eq_true (by first | (with_reducible assumption) | assumption); omega)
          have hx5 : ∀ h : 4 < a0.size, ((a0[4]'h).toNat : Int) = bt a0 4 := bt_at a0 4
          clear p5
          have qi5 : (4 < (a0.size : Int)) = True := eq_true (of_decide_eq_true (by first | (with_reducible assumption) | assumption))
          replace q5 := eq_true q5
          go_wp2
          go_meet
          case rel => exact ⟨_, (true), (by first | rfl | (simp; done) | (simp [*]; done)), H', ⟨by first | omega | exact Nat.le_refl _⟩, by repeat (first | exact Drawn0.refl _ | apply Drawn0.step)⟩
      · rw [if_neg c4] at H
        exact absurd H (by simp)
    · rw [if_neg c3] at H
      have c3b0 : ((a0.size : Int) == 10) = false := beq_eq_false_iff_ne.mpr c3
      have c3b1 : ((a0.size : Int) != 10) = true := bne_iff_ne.mpr c3
      (first | rw [c3b0] | (simp only [i64_w, i32_w]; rw [c3b0]) | skip)
      have H' := Aside0.mk H
      clear H
      go_wp2
      go_meet
      case rel => exact ⟨_, (true), (by first | rfl | (simp; done) | (simp [*]; done)), H', ⟨by first | omega | exact Nat.le_refl _⟩, by repeat (first | exact Drawn0.refl _ | apply Drawn0.step)⟩
  case rest =>
    clear HC2
    try clear c2
    try clear p2
    try clear c3
    try clear c3b0
    try clear c3b1
    try clear c4
    try clear c4b0
    try clear c4b1
    try clear p5
    try clear q5
    try clear hx5
    try clear qi5
    try clear c6
    try clear c6b0
    try clear c6b1
    try clear c7
    try clear c7b0
    try clear c7b1
    try clear p8
    try clear q8
    try clear hx8
    try clear qi8
    try clear p5
    try clear p8
    try clear q5
    try clear q8
    obtain ⟨kq, x22_1, rfl, HA, HJ1, ⟨mc1, rfl⟩⟩ := hcut
    cases kq with
    | zero => exact absurd HA.out (by simp [wageofficeref02_Parse.j0])
    | succ kj1 =>
      have H := HA.out
      clear HA
      simp only [wageofficeref02_Parse.j0] at H
      by_cases c9 : x22_1 = true
      · subst c9
        have H1 : (some (0, 12)) = some (r1, r2) := by rw [if_pos rfl] at H; exact H
        clear H
        have H := H1
        clear H1
        simp only [Option.some.injEq, Prod.mk.injEq] at H
        obtain ⟨rfl, rfl⟩ := H
        go_wp2
        go_ret2
        exact ⟨by first | rfl | (simp; done) | (simp [*]; done), by repeat (first | exact Drawn0.refl _ | apply Drawn0.step)⟩
      · replace c9 := Bool.eq_false_iff.mpr c9
        subst c9
        have H1 : ((wageofficeref02_number.f kj1 a0 0 4).bind fun bt171 => ((wageofficeref02_number.f kj1 a0 5 7).bind fun bt173 => ((wageofficeref02_number.f kj1 a0 8 10).bind fun bt175 => (if bt171.2 = true then (if bt173.2 = true then (if bt175.2 = true then ((wageofficeref02_Day.f kj1 bt171.1 bt173.1 bt175.1).bind fun bt177 => (some (bt177.1, bt177.2))) else (some (0, 12))) else (some (0, 12))) else (some (0, 12)))))) = some (r1, r2) := by rw [if_neg (show ¬ (false = true) by decide)] at H; exact H
        clear H
        have H := H1
        clear H1
        replace H := Option.bind_eq_some_iff.mp H
        obtain ⟨⟨t171, t172⟩, A100, H⟩ := H
        replace H : ((wageofficeref02_number.f kj1 a0 5 7).bind fun bt173 => ((wageofficeref02_number.f kj1 a0 8 10).bind fun bt175 => (if t172 = true then (if bt173.2 = true then (if bt175.2 = true then ((wageofficeref02_Day.f kj1 t171 bt173.1 bt175.1).bind fun bt177 => (some (bt177.1, bt177.2))) else (some (0, 12))) else (some (0, 12))) else (some (0, 12))))) = some (r1, r2) := H
        have A10 := Aside0.mk A100
        clear A100
        replace H := Option.bind_eq_some_iff.mp H
        obtain ⟨⟨t173, t174⟩, A110, H⟩ := H
        replace H : ((wageofficeref02_number.f kj1 a0 8 10).bind fun bt175 => (if t172 = true then (if t174 = true then (if bt175.2 = true then ((wageofficeref02_Day.f kj1 t171 t173 bt175.1).bind fun bt177 => (some (bt177.1, bt177.2))) else (some (0, 12))) else (some (0, 12))) else (some (0, 12)))) = some (r1, r2) := H
        have A11 := Aside0.mk A110
        clear A110
        replace H := Option.bind_eq_some_iff.mp H
        obtain ⟨⟨t175, t176⟩, A120, H⟩ := H
        replace H : (if t172 = true then (if t174 = true then (if t176 = true then ((wageofficeref02_Day.f kj1 t171 t173 t175).bind fun bt177 => (some (bt177.1, bt177.2))) else (some (0, 12))) else (some (0, 12))) else (some (0, 12))) = some (r1, r2) := H
        have A12 := Aside0.mk A120
        clear A120
        by_cases c13 : t172 = true
        · subst c13
          have H1 : (if t174 = true then (if t176 = true then ((wageofficeref02_Day.f kj1 t171 t173 t175).bind fun bt177 => (some (bt177.1, bt177.2))) else (some (0, 12))) else (some (0, 12))) = some (r1, r2) := by rw [if_pos rfl] at H; exact H
          clear H
          have H := H1
          clear H1
          by_cases c14 : t174 = true
          · subst c14
            have H1 : (if t176 = true then ((wageofficeref02_Day.f kj1 t171 t173 t175).bind fun bt177 => (some (bt177.1, bt177.2))) else (some (0, 12))) = some (r1, r2) := by rw [if_pos rfl] at H; exact H
            clear H
            have H := H1
            clear H1
            by_cases c15 : t176 = true
            · subst c15
              have H1 : ((wageofficeref02_Day.f kj1 t171 t173 t175).bind fun bt177 => (some (bt177.1, bt177.2))) = some (r1, r2) := by rw [if_pos rfl] at H; exact H
              clear H
              have H := H1
              clear H1
              replace H := Option.bind_eq_some_iff.mp H
              obtain ⟨⟨t177, t178⟩, A160, H⟩ := H
              replace H : (some (t177, t178)) = some (r1, r2) := H
              have A16 := Aside0.mk A160
              clear A160
              simp only [Option.some.injEq, Prod.mk.injEq] at H
              obtain ⟨rfl, rfl⟩ := H
              go_wp2_with (first | ((with_reducible refine gate_callee (f := 35) rfl ?_); refine goesL_ (some 25) rfl rfl Tryd.func35 (by kernel_rfl) rfl #[.string a0, .int .i64 0, .int .i64 4] rfl (by (try simp only [List.map_toArray, List.map_cons, List.map_nil]); first | done | rfl | (simp only [List.length_drop, List.length_take]; rfl)) ?_; (with_reducible refine (wageofficeref02_number.calls kj1 a0 0 4 t171 true _ A10.out).mono ?_); rintro e w' ⟨rfl, ⟨nd, rfl⟩⟩; refine ⟨_, rfl, ?_⟩) | ((with_reducible refine gate_callee (f := 35) rfl ?_); refine goesL_ (some 30) rfl rfl Tryd.func35 (by kernel_rfl) rfl #[.string a0, .int .i64 5, .int .i64 7] rfl (by (try simp only [List.map_toArray, List.map_cons, List.map_nil]); first | done | rfl | (simp only [List.length_drop, List.length_take]; rfl)) ?_; (with_reducible refine (wageofficeref02_number.calls kj1 a0 5 7 t173 true _ A11.out).mono ?_); rintro e w' ⟨rfl, ⟨nd, rfl⟩⟩; refine ⟨_, rfl, ?_⟩) | ((with_reducible refine gate_callee (f := 35) rfl ?_); refine goesL_ (some 35) rfl rfl Tryd.func35 (by kernel_rfl) rfl #[.string a0, .int .i64 8, .int .i64 10] rfl (by (try simp only [List.map_toArray, List.map_cons, List.map_nil]); first | done | rfl | (simp only [List.length_drop, List.length_take]; rfl)) ?_; (with_reducible refine (wageofficeref02_number.calls kj1 a0 8 10 t175 true _ A12.out).mono ?_); rintro e w' ⟨rfl, ⟨nd, rfl⟩⟩; refine ⟨_, rfl, ?_⟩) | ((with_reducible refine gate_callee (f := 26) rfl ?_); refine goesL_ (some 51) rfl rfl Tryd.func26 (by kernel_rfl) rfl #[.int .i64 t171, .int .i64 t173, .int .i64 t175] rfl (by (try simp only [List.map_toArray, List.map_cons, List.map_nil]); first | done | rfl | (simp only [List.length_drop, List.length_take]; rfl)) ?_; (with_reducible refine (wageofficeref02_Day.calls kj1 t171 t173 t175 t177 t178 _ A16.out).mono ?_); rintro e w' ⟨rfl, ⟨nd, rfl⟩⟩; refine ⟨_, rfl, ?_⟩))
              go_ret2
              exact ⟨by first | rfl | (simp; done) | (simp [*]; done), by repeat (first | exact Drawn0.refl _ | apply Drawn0.step)⟩
            · replace c15 := Bool.eq_false_iff.mpr c15
              subst c15
              have H1 : (some (0, 12)) = some (r1, r2) := by rw [if_neg (show ¬ (false = true) by decide)] at H; exact H
              clear H
              have H := H1
              clear H1
              simp only [Option.some.injEq, Prod.mk.injEq] at H
              obtain ⟨rfl, rfl⟩ := H
              go_wp2_with (first | ((with_reducible refine gate_callee (f := 35) rfl ?_); refine goesL_ (some 25) rfl rfl Tryd.func35 (by kernel_rfl) rfl #[.string a0, .int .i64 0, .int .i64 4] rfl (by (try simp only [List.map_toArray, List.map_cons, List.map_nil]); first | done | rfl | (simp only [List.length_drop, List.length_take]; rfl)) ?_; (with_reducible refine (wageofficeref02_number.calls kj1 a0 0 4 t171 true _ A10.out).mono ?_); rintro e w' ⟨rfl, ⟨nd, rfl⟩⟩; refine ⟨_, rfl, ?_⟩) | ((with_reducible refine gate_callee (f := 35) rfl ?_); refine goesL_ (some 30) rfl rfl Tryd.func35 (by kernel_rfl) rfl #[.string a0, .int .i64 5, .int .i64 7] rfl (by (try simp only [List.map_toArray, List.map_cons, List.map_nil]); first | done | rfl | (simp only [List.length_drop, List.length_take]; rfl)) ?_; (with_reducible refine (wageofficeref02_number.calls kj1 a0 5 7 t173 true _ A11.out).mono ?_); rintro e w' ⟨rfl, ⟨nd, rfl⟩⟩; refine ⟨_, rfl, ?_⟩) | ((with_reducible refine gate_callee (f := 35) rfl ?_); refine goesL_ (some 35) rfl rfl Tryd.func35 (by kernel_rfl) rfl #[.string a0, .int .i64 8, .int .i64 10] rfl (by (try simp only [List.map_toArray, List.map_cons, List.map_nil]); first | done | rfl | (simp only [List.length_drop, List.length_take]; rfl)) ?_; (with_reducible refine (wageofficeref02_number.calls kj1 a0 8 10 t175 false _ A12.out).mono ?_); rintro e w' ⟨rfl, ⟨nd, rfl⟩⟩; refine ⟨_, rfl, ?_⟩))
              go_ret2
              exact ⟨by first | rfl | (simp; done) | (simp [*]; done), by repeat (first | exact Drawn0.refl _ | apply Drawn0.step)⟩
          · replace c14 := Bool.eq_false_iff.mpr c14
            subst c14
            have H1 : (some (0, 12)) = some (r1, r2) := by rw [if_neg (show ¬ (false = true) by decide)] at H; exact H
            clear H
            have H := H1
            clear H1
            simp only [Option.some.injEq, Prod.mk.injEq] at H
            obtain ⟨rfl, rfl⟩ := H
            go_wp2_with (first | ((with_reducible refine gate_callee (f := 35) rfl ?_); refine goesL_ (some 25) rfl rfl Tryd.func35 (by kernel_rfl) rfl #[.string a0, .int .i64 0, .int .i64 4] rfl (by (try simp only [List.map_toArray, List.map_cons, List.map_nil]); first | done | rfl | (simp only [List.length_drop, List.length_take]; rfl)) ?_; (with_reducible refine (wageofficeref02_number.calls kj1 a0 0 4 t171 true _ A10.out).mono ?_); rintro e w' ⟨rfl, ⟨nd, rfl⟩⟩; refine ⟨_, rfl, ?_⟩) | ((with_reducible refine gate_callee (f := 35) rfl ?_); refine goesL_ (some 30) rfl rfl Tryd.func35 (by kernel_rfl) rfl #[.string a0, .int .i64 5, .int .i64 7] rfl (by (try simp only [List.map_toArray, List.map_cons, List.map_nil]); first | done | rfl | (simp only [List.length_drop, List.length_take]; rfl)) ?_; (with_reducible refine (wageofficeref02_number.calls kj1 a0 5 7 t173 false _ A11.out).mono ?_); rintro e w' ⟨rfl, ⟨nd, rfl⟩⟩; refine ⟨_, rfl, ?_⟩) | ((with_reducible refine gate_callee (f := 35) rfl ?_); refine goesL_ (some 35) rfl rfl Tryd.func35 (by kernel_rfl) rfl #[.string a0, .int .i64 8, .int .i64 10] rfl (by (try simp only [List.map_toArray, List.map_cons, List.map_nil]); first | done | rfl | (simp only [List.length_drop, List.length_take]; rfl)) ?_; (with_reducible refine (wageofficeref02_number.calls kj1 a0 8 10 t175 t176 _ A12.out).mono ?_); rintro e w' ⟨rfl, ⟨nd, rfl⟩⟩; refine ⟨_, rfl, ?_⟩))
            go_ret2
            exact ⟨by first | rfl | (simp; done) | (simp [*]; done), by repeat (first | exact Drawn0.refl _ | apply Drawn0.step)⟩
        · replace c13 := Bool.eq_false_iff.mpr c13
          subst c13
          have H1 : (some (0, 12)) = some (r1, r2) := by rw [if_neg (show ¬ (false = true) by decide)] at H; exact H
          clear H
          have H := H1
          clear H1
          simp only [Option.some.injEq, Prod.mk.injEq] at H
          obtain ⟨rfl, rfl⟩ := H
          go_wp2_with (first | ((with_reducible refine gate_callee (f := 35) rfl ?_); refine goesL_ (some 25) rfl rfl Tryd.func35 (by kernel_rfl) rfl #[.string a0, .int .i64 0, .int .i64 4] rfl (by (try simp only [List.map_toArray, List.map_cons, List.map_nil]); first | done | rfl | (simp only [List.length_drop, List.length_take]; rfl)) ?_; (with_reducible refine (wageofficeref02_number.calls kj1 a0 0 4 t171 false _ A10.out).mono ?_); rintro e w' ⟨rfl, ⟨nd, rfl⟩⟩; refine ⟨_, rfl, ?_⟩) | ((with_reducible refine gate_callee (f := 35) rfl ?_); refine goesL_ (some 30) rfl rfl Tryd.func35 (by kernel_rfl) rfl #[.string a0, .int .i64 5, .int .i64 7] rfl (by (try simp only [List.map_toArray, List.map_cons, List.map_nil]); first | done | rfl | (simp only [List.length_drop, List.length_take]; rfl)) ?_; (with_reducible refine (wageofficeref02_number.calls kj1 a0 5 7 t173 t174 _ A11.out).mono ?_); rintro e w' ⟨rfl, ⟨nd, rfl⟩⟩; refine ⟨_, rfl, ?_⟩) | ((with_reducible refine gate_callee (f := 35) rfl ?_); refine goesL_ (some 35) rfl rfl Tryd.func35 (by kernel_rfl) rfl #[.string a0, .int .i64 8, .int .i64 10] rfl (by (try simp only [List.map_toArray, List.map_cons, List.map_nil]); first | done | rfl | (simp only [List.length_drop, List.length_take]; rfl)) ?_; (with_reducible refine (wageofficeref02_number.calls kj1 a0 8 10 t175 t176 _ A12.out).mono ?_); rintro e w' ⟨rfl, ⟨nd, rfl⟩⟩; refine ⟨_, rfl, ?_⟩))
          go_ret2
          exact ⟨by first | rfl | (simp; done) | (simp [*]; done), by repeat (first | exact Drawn0.refl _ | apply Drawn0.step)⟩

end Go.Proofs.YthakhcnpiobpgaaDoor.PAll
