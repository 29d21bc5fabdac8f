-- Written by myprint.py over the kit's print.py (a printed text of this session's own make).
import Derived.Test.YtnlgnmlobklobaaDoorPAllx0
import Derived.Test.YtnlgnmlobklobaaDoorPAllx6
-- HALF the printed indentation
namespace Go.Proofs.YtnlgnmlobklobaaDoor.PAll
open Go.Proofs.YtnlgnmlobklobaaDoor.Stub Go.Proofs.YtnlgnmlobklobaaDoor.Com Go.Proofs.YtnlgnmlobklobaaDoor.Hash
open Go.RowKit Go.Proofs.YtnlgnmlobklobaaDoorW.PrintWords Go.Proofs.YtnlgnmlobklobaaDoorW.PrintLast Go.Proofs.YtnlgnmlobklobaaDoorW.PrintMore
attribute [local go_sem] max2_int min2_int max_two min_two max_three min_three max_four min_four   -- for this text's walks alone
set_option linter.unusedVariables false
set_option linter.unusedSimpArgs false

/-! ### wageofficeref27_challenge: function 57 -/
def wageofficeref27_challenge.f (k : Nat) (a0 : Int) (a1 : Int) (a2 : Int) : Option (Int) := (wageofficeref27_digits.f k a0).bind fun t208 => (if 2 + t208.size ≤ 9223372036854775807 then (if 2 + t208.size + 1 ≤ 9223372036854775807 then ((wageofficeref27_digits.f k a1).bind fun t209 => (if 2 + t208.size + 1 + t209.size ≤ 9223372036854775807 then (if 2 + t208.size + 1 + t209.size + 1 ≤ 9223372036854775807 then ((wageofficeref27_digits.f k a2).bind fun t210 => (if 2 + t208.size + 1 + t209.size + 1 + t210.size ≤ 9223372036854775807 then ((wageofficeref23_Sum.f k ((((((⟨#[99, 32]⟩ : ByteArray) ++ t208) ++ (⟨#[32]⟩ : ByteArray)) ++ t209) ++ (⟨#[32]⟩ : ByteArray)) ++ t210)).bind fun t211 => ((wageofficeref27_mod.f t211).bind fun t212 => (some t212))) else (none))) else (none)) else (none))) else (none)) else (none))
theorem wageofficeref27_challenge.mono : ∀ a0 a1 a2 k, LeO (wageofficeref27_challenge.f k a0 a1 a2) (wageofficeref27_challenge.f (k + 1) a0 a1 a2) := by
 intro a0 a1 a2 k
 unfold wageofficeref27_challenge.f
 repeat' first
   | (with_reducible exact wageofficeref23_Sum.mono _ _)
   | (with_reducible exact wageofficeref27_digits.mono _ _)
   | (with_reducible exact LeO.refl _)
   | (with_reducible exact LeO.none _)
   | (with_reducible refine LeO.ite ?_ ?_)
   | (with_reducible refine LeO.bind ?_ (fun _ => ?_))
   | exact wageofficeref23_Sum.mono _ _
   | exact wageofficeref27_digits.mono _ _
   | exact LeO.none _
   | refine LeO.ite ?_ ?_
   | refine LeO.bind ?_ (fun _ => ?_)
set_option maxHeartbeats 8000000 in
set_option maxRecDepth 100000 in
theorem wageofficeref27_challenge.calls (k : Nat) (a0 : Int) (a1 : Int) (a2 : Int) (r : Int) (w : World) (h : wageofficeref27_challenge.f k a0 a1 a2 = some r) :
  Calls Tryd.prog 57 #[.int .i64 a0, .int .i64 a1, .int .i64 a2] w fun e w' => e = .returned (.int .i64 r) ∧ Below w.heap.size w w' := by
 have HB := Aside0.mk (Below.refl w.heap.size w)
 have H : ((wageofficeref27_digits.f k a0).bind fun t208 => (if 2 + t208.size ≤ 9223372036854775807 then (if 2 + t208.size + 1 ≤ 9223372036854775807 then ((wageofficeref27_digits.f k a1).bind fun t209 => (if 2 + t208.size + 1 + t209.size ≤ 9223372036854775807 then (if 2 + t208.size + 1 + t209.size + 1 ≤ 9223372036854775807 then ((wageofficeref27_digits.f k a2).bind fun t210 => (if 2 + t208.size + 1 + t209.size + 1 + t210.size ≤ 9223372036854775807 then ((wageofficeref23_Sum.f k ((((((⟨#[99, 32]⟩ : ByteArray) ++ t208) ++ (⟨#[32]⟩ : ByteArray)) ++ t209) ++ (⟨#[32]⟩ : ByteArray)) ++ t210)).bind fun t211 => ((wageofficeref27_mod.f t211).bind fun t212 => (some t212))) else (none))) else (none)) else (none))) else (none)) else (none))) = some r := h
 clear h
 replace H := Option.bind_eq_some_iff.mp H
 obtain ⟨t208, A40, H⟩ := H
 replace H : (if 2 + t208.size ≤ 9223372036854775807 then (if 2 + t208.size + 1 ≤ 9223372036854775807 then ((wageofficeref27_digits.f k a1).bind fun t209 => (if 2 + t208.size + 1 + t209.size ≤ 9223372036854775807 then (if 2 + t208.size + 1 + t209.size + 1 ≤ 9223372036854775807 then ((wageofficeref27_digits.f k a2).bind fun t210 => (if 2 + t208.size + 1 + t209.size + 1 + t210.size ≤ 9223372036854775807 then ((wageofficeref23_Sum.f k ((((((⟨#[99, 32]⟩ : ByteArray) ++ t208) ++ (⟨#[32]⟩ : ByteArray)) ++ t209) ++ (⟨#[32]⟩ : ByteArray)) ++ t210)).bind fun t211 => ((wageofficeref27_mod.f t211).bind fun t212 => (some t212))) else (none))) else (none)) else (none))) else (none)) else (none)) = some r := H
 have A4 := Aside0.mk A40
 clear A40
 by_cases c5 : 2 + t208.size ≤ 9223372036854775807
 ·rw [if_pos c5] at H
  have c5b0 := eq_true c5
  have c5b1 : decide (2 + t208.size ≤ 9223372036854775807) = true := decide_eq_true c5
  try have c5b2 : (9223372036854775807 < 2 + t208.size) = False := eq_false (Nat.not_lt.2 c5)
  by_cases c6 : 2 + t208.size + 1 ≤ 9223372036854775807
  ·rw [if_pos c6] at H
   have c6b0 := eq_true c6
   have c6b1 : decide (2 + t208.size + 1 ≤ 9223372036854775807) = true := decide_eq_true c6
   try have c6b2 : (9223372036854775807 < 2 + t208.size + 1) = False := eq_false (Nat.not_lt.2 c6)
   replace H := Option.bind_eq_some_iff.mp H
   obtain ⟨t209, A70, H⟩ := H
   replace H : (if 2 + t208.size + 1 + t209.size ≤ 9223372036854775807 then (if 2 + t208.size + 1 + t209.size + 1 ≤ 9223372036854775807 then ((wageofficeref27_digits.f k a2).bind fun t210 => (if 2 + t208.size + 1 + t209.size + 1 + t210.size ≤ 9223372036854775807 then ((wageofficeref23_Sum.f k ((((((⟨#[99, 32]⟩ : ByteArray) ++ t208) ++ (⟨#[32]⟩ : ByteArray)) ++ t209) ++ (⟨#[32]⟩ : ByteArray)) ++ t210)).bind fun t211 => ((wageofficeref27_mod.f t211).bind fun t212 => (some t212))) else (none))) else (none)) else (none)) = some r := H
   have A7 := Aside0.mk A70
   clear A70
   by_cases c8 : 2 + t208.size + 1 + t209.size ≤ 9223372036854775807
   ·rw [if_pos c8] at H
    have c8b0 := eq_true c8
    have c8b1 : decide (2 + t208.size + 1 + t209.size ≤ 9223372036854775807) = true := decide_eq_true c8
    try have c8b2 : (9223372036854775807 < 2 + t208.size + 1 + t209.size) = False := eq_false (Nat.not_lt.2 c8)
    by_cases c9 : 2 + t208.size + 1 + t209.size + 1 ≤ 9223372036854775807
    ·rw [if_pos c9] at H
     have c9b0 := eq_true c9
     have c9b1 : decide (2 + t208.size + 1 + t209.size + 1 ≤ 9223372036854775807) = true := decide_eq_true c9
     try have c9b2 : (9223372036854775807 < 2 + t208.size + 1 + t209.size + 1) = False := eq_false (Nat.not_lt.2 c9)
     replace H := Option.bind_eq_some_iff.mp H
     obtain ⟨t210, A100, H⟩ := H
     replace H : (if 2 + t208.size + 1 + t209.size + 1 + t210.size ≤ 9223372036854775807 then ((wageofficeref23_Sum.f k ((((((⟨#[99, 32]⟩ : ByteArray) ++ t208) ++ (⟨#[32]⟩ : ByteArray)) ++ t209) ++ (⟨#[32]⟩ : ByteArray)) ++ t210)).bind fun t211 => ((wageofficeref27_mod.f t211).bind fun t212 => (some t212))) else (none)) = some r := H
     have A10 := Aside0.mk A100
     clear A100
     by_cases c11 : 2 + t208.size + 1 + t209.size + 1 + t210.size ≤ 9223372036854775807
     ·rw [if_pos c11] at H
      have c11b0 := eq_true c11
      have c11b1 : decide (2 + t208.size + 1 + t209.size + 1 + t210.size ≤ 9223372036854775807) = true := decide_eq_true c11
      try have c11b2 : (9223372036854775807 < 2 + t208.size + 1 + t209.size + 1 + t210.size) = False := eq_false (Nat.not_lt.2 c11)
      replace H := Option.bind_eq_some_iff.mp H
      obtain ⟨t211, A120, H⟩ := H
      replace H : ((wageofficeref27_mod.f t211).bind fun t212 => (some t212)) = some r := H
      have A12 := Aside0.mk A120
      clear A120
      replace H := Option.bind_eq_some_iff.mp H
      obtain ⟨t212, A130, H⟩ := H
      replace H : (some t212) = some r := H
      have A13 := Aside0.mk A130
      clear A130
      obtain rfl := Option.some.inj H
      go_enter Tryd.func57, Tryd.ntmps57
      go_wp2_with (first | ((with_reducible refine gate_callee (f := 51) rfl ?_); refine goesL_ (some 8) rfl rfl Tryd.func51 (by kernel_rfl) rfl #[.int .i64 a0] rfl (by (try simp only [List.map_toArray, List.map_cons, List.map_nil]); first | done | rfl | (simp only [List.length_drop, List.length_take]; rfl)) ?_; (with_reducible refine (wageofficeref27_digits.calls k a0 t208 _ A4.out).mono ?_); rintro e w14 ⟨rfl, hb⟩; refine ⟨_, rfl, ?_⟩; have n0_ := Aside0.mk (below_step (by repeat (first | (with_reducible first | exact HB.out | apply below_alloc | apply pw_below_drewN | apply below_drew1) | exact HB.out)) hb); clear HB; have HB := n0_; clear n0_; (try clear hb); (try clear hb2); (try clear hk); (try clear hi)) | ((with_reducible refine gate_callee (f := 51) rfl ?_); refine goesL_ (some 12) rfl rfl Tryd.func51 (by kernel_rfl) rfl #[.int .i64 a1] rfl (by (try simp only [List.map_toArray, List.map_cons, List.map_nil]); first | done | rfl | (simp only [List.length_drop, List.length_take]; rfl)) ?_; (with_reducible refine (wageofficeref27_digits.calls k a1 t209 _ A7.out).mono ?_); rintro e w15 ⟨rfl, hb⟩; refine ⟨_, rfl, ?_⟩; have n0_ := Aside0.mk (below_step (by repeat (first | (with_reducible first | exact HB.out | apply below_alloc | apply pw_below_drewN | apply below_drew1) | exact HB.out)) hb); clear HB; have HB := n0_; clear n0_; (try clear hb); (try clear hb2); (try clear hk); (try clear hi)) | ((with_reducible refine gate_callee (f := 51) rfl ?_); refine goesL_ (some 16) rfl rfl Tryd.func51 (by kernel_rfl) rfl #[.int .i64 a2] rfl (by (try simp only [List.map_toArray, List.map_cons, List.map_nil]); first | done | rfl | (simp only [List.length_drop, List.length_take]; rfl)) ?_; (with_reducible refine (wageofficeref27_digits.calls k a2 t210 _ A10.out).mono ?_); rintro e w16 ⟨rfl, hb⟩; refine ⟨_, rfl, ?_⟩; have n0_ := Aside0.mk (below_step (by repeat (first | (with_reducible first | exact HB.out | apply below_alloc | apply pw_below_drewN | apply below_drew1) | exact HB.out)) hb); clear HB; have HB := n0_; clear n0_; (try clear hb); (try clear hb2); (try clear hk); (try clear hi)) | ((with_reducible refine gate_callee (f := 50) rfl ?_); refine goesL_ (some 18) rfl rfl Tryd.func50 (by kernel_rfl) rfl #[.string ((((((⟨#[99, 32]⟩ : ByteArray) ++ t208) ++ (⟨#[32]⟩ : ByteArray)) ++ t209) ++ (⟨#[32]⟩ : ByteArray)) ++ t210)] rfl (by (try simp only [List.map_toArray, List.map_cons, List.map_nil]); first | done | rfl | (simp only [List.length_drop, List.length_take]; rfl)) ?_; (with_reducible refine (wageofficeref23_Sum.calls k ((((((⟨#[99, 32]⟩ : ByteArray) ++ t208) ++ (⟨#[32]⟩ : ByteArray)) ++ t209) ++ (⟨#[32]⟩ : ByteArray)) ++ t210) t211 _ A12.out).mono ?_); rintro e w' ⟨rfl, ⟨nd, rfl⟩⟩; refine ⟨_, rfl, ?_⟩) | ((with_reducible refine gate_callee (f := 49) rfl ?_); refine goesL_ (some 19) rfl rfl Tryd.func49 (by kernel_rfl) rfl #[.int .u64 t211] rfl (by (try simp only [List.map_toArray, List.map_cons, List.map_nil]); first | done | rfl | (simp only [List.length_drop, List.length_take]; rfl)) ?_; (with_reducible refine (wageofficeref27_mod.calls t211 t212 _ A13.out).mono ?_); rintro e w' ⟨rfl, ⟨nd, rfl⟩⟩; refine ⟨_, rfl, ?_⟩))
      go_ret
      exact ⟨by first | rfl | (simp [errW_none, errW_some] <;> rfl) | (simp [*, errW_none, errW_some] <;> rfl), by repeat (first | (with_reducible first | exact HB.out | apply below_alloc | apply pw_below_drewN | apply below_drew1) | exact HB.out)⟩
     ·rw [if_neg c11] at H
      exact absurd H (by simp)
    ·rw [if_neg c9] at H
     exact absurd H (by simp)
   ·rw [if_neg c8] at H
    exact absurd H (by simp)
  ·rw [if_neg c6] at H
   exact absurd H (by simp)
 ·rw [if_neg c5] at H
  exact absurd H (by simp)

-- GIVEN BY A TEXT OF ITS OWN: function 29 (wageofficeref27_bit)

/-! ### wageofficeref26_Element: function 59 -/
def wageofficeref26_Element.f (k : Nat) (a0 : Int) : Option (Bool) := if a0 ≥ 1 then (if a0 < 2147483579 then ((wageofficeref26_Power.f k a0 1073741789).bind fun t240 => (some (t240 == 1))) else (some false)) else (some false)
theorem wageofficeref26_Element.mono : ∀ a0 k, LeO (wageofficeref26_Element.f k a0) (wageofficeref26_Element.f (k + 1) a0) := by
 intro a0 k
 unfold wageofficeref26_Element.f
 repeat' first
   | (with_reducible exact wageofficeref26_Power.mono _ _ _)
   | (with_reducible exact LeO.refl _)
   | (with_reducible exact LeO.none _)
   | (with_reducible refine LeO.ite ?_ ?_)
   | (with_reducible refine LeO.bind ?_ (fun _ => ?_))
   | exact wageofficeref26_Power.mono _ _ _
   | exact LeO.none _
   | refine LeO.ite ?_ ?_
   | refine LeO.bind ?_ (fun _ => ?_)
set_option maxHeartbeats 8000000 in
set_option maxRecDepth 100000 in
theorem wageofficeref26_Element.calls (k : Nat) (a0 : Int) (r : Bool) (w : World) (h : wageofficeref26_Element.f k a0 = some r) :
  Calls Tryd.prog 59 #[.int .i64 a0] w fun e w' => e = .returned (.bool r) ∧ Drawn0 w w' := by
 have H : (if a0 ≥ 1 then (if a0 < 2147483579 then ((wageofficeref26_Power.f k a0 1073741789).bind fun t240 => (some (t240 == 1))) else (some false)) else (some false)) = some r := h
 clear h
 by_cases c2 : a0 ≥ 1
 ·rw [if_pos c2] at H
  have c2b0 : decide (1 ≤ a0) = true := decide_eq_true c2
  clear c2
  by_cases c3 : a0 < 2147483579
  ·rw [if_pos c3] at H
   have c3b0 : decide (a0 < 2147483579) = true := decide_eq_true c3
   clear c3
   replace H := Option.bind_eq_some_iff.mp H
   obtain ⟨t240, A40, H⟩ := H
   replace H : (some (t240 == 1)) = some r := H
   have A4 := Aside0.mk A40
   clear A40
   obtain rfl := Option.some.inj H
   go_enter Tryd.func59, Tryd.ntmps59
   go_wp2_with (first | (go_at_call 54; (with_reducible refine (wageofficeref26_Power.calls k a0 1073741789 t240 _ A4.out).mono ?_); rintro e w' ⟨rfl, ⟨nd, rfl⟩⟩))
   go_ret
   exact ⟨by first | rfl | (simp; done) | (simp [*]; done), by repeat (first | exact Drawn0.refl _ | apply Drawn0.step)⟩
  ·rw [if_neg c3] at H
   have c3b0 : decide (a0 < 2147483579) = false := decide_eq_false c3
   clear c3
   obtain rfl := Option.some.inj H
   go_enter Tryd.func59, Tryd.ntmps59
   go_wp2
   go_ret
   exact ⟨by first | rfl | (simp; done) | (simp [*]; done), by repeat (first | exact Drawn0.refl _ | apply Drawn0.step)⟩
 ·rw [if_neg c2] at H
  have c2b0 : decide (1 ≤ a0) = false := decide_eq_false c2
  clear c2
  obtain rfl := Option.some.inj H
  go_enter Tryd.func59, Tryd.ntmps59
  go_wp2
  go_ret
  exact ⟨by first | rfl | (simp; done) | (simp [*]; done), by repeat (first | exact Drawn0.refl _ | apply Drawn0.step)⟩

-- GIVEN BY A TEXT OF ITS OWN: function 32 (wageofficeref27_Right)

/-! ### wageofficeref27_powerQ: function 33 -/
def wageofficeref27_powerQ.l0 : Nat → Int → Int → Int → Option (Int)
 | 0, _, _, _ => none
 | k + 1, x0, x1, x5 => if x1 > 0 then (if (Int.tmod x1 2) = 1 then (wageofficeref27_powerQ.l0 k (Int.tmod (wrap64 (x0 * x0)) 1073741789) (wrap64 (Int.tdiv x1 2)) (Int.tmod (wrap64 (x5 * x0)) 1073741789)) else (wageofficeref27_powerQ.l0 k (Int.tmod (wrap64 (x0 * x0)) 1073741789) (wrap64 (Int.tdiv x1 2)) x5)) else (some x5)
def wageofficeref27_powerQ.f (k : Nat) (a0 : Int) (a1 : Int) : Option (Int) := wageofficeref27_powerQ.l0 k a0 a1 1
theorem wageofficeref27_powerQ.mono_l : ∀ k, (∀ y0 y1 y2, LeO (wageofficeref27_powerQ.l0 k y0 y1 y2) (wageofficeref27_powerQ.l0 (k + 1) y0 y1 y2))
 | 0 => fun _ _ _ r h => by simp [wageofficeref27_powerQ.l0] at h
 | k + 1 => by
  have ih0 := wageofficeref27_powerQ.mono_l k
  ·intro y0 y1 y2
   unfold wageofficeref27_powerQ.l0
   repeat' first
   | (with_reducible exact ih0 _ _ _)
   | (with_reducible exact LeO.refl _)
   | (with_reducible exact LeO.none _)
   | (with_reducible refine LeO.ite ?_ ?_)
   | (with_reducible refine LeO.bind ?_ (fun _ => ?_))
   | exact ih0 _ _ _
   | exact LeO.none _
   | refine LeO.ite ?_ ?_
   | refine LeO.bind ?_ (fun _ => ?_)
theorem wageofficeref27_powerQ.mono : ∀ a0 a1 k, LeO (wageofficeref27_powerQ.f k a0 a1) (wageofficeref27_powerQ.f (k + 1) a0 a1) := by
 intro a0 a1 k
 have ih0 := wageofficeref27_powerQ.mono_l k
 unfold wageofficeref27_powerQ.f
 repeat' first
   | (with_reducible exact ih0 _ _ _)
   | (with_reducible exact LeO.refl _)
   | (with_reducible exact LeO.none _)
   | (with_reducible refine LeO.ite ?_ ?_)
   | (with_reducible refine LeO.bind ?_ (fun _ => ?_))
   | exact ih0 _ _ _
   | exact LeO.none _
   | refine LeO.ite ?_ ?_
   | refine LeO.bind ?_ (fun _ => ?_)
set_option maxHeartbeats 8000000 in
set_option maxRecDepth 100000 in
theorem wageofficeref27_powerQ.calls (k : Nat) (a0 : Int) (a1 : Int) (r : Int) (w : World) (h : wageofficeref27_powerQ.f k a0 a1 = some r) :
  Calls Tryd.prog 33 #[.int .i64 a0, .int .i64 a1] w fun e w' => e = .returned (.int .i64 r) ∧ Drawn0 w w' := by
 have H : (wageofficeref27_powerQ.l0 k a0 a1 1) = some r := h
 clear h
 have H' := Aside0.mk H
 clear H
 go_enter Tryd.func33, Tryd.ntmps33
 go_wp2
 go_loopg [0, 1, 5] k (fun kq v0 v1 v5 w' => ∃ (x0_1 : Int) (x1_1 : Int) (x5_1 : Int), v0 = .int .i64 x0_1 ∧ v1 = .int .i64 x1_1 ∧ v5 = .int .i64 x5_1 ∧ Aside0 (wageofficeref27_powerQ.l0 kq x0_1 x1_1 x5_1 = some r) ∧ Aside0 (kq ≤ k) ∧ Drawn0 w w')
 case atStart => exact ⟨(a0), (a1), (1), (by first | rfl | (simp; done) | (simp [*]; done)), (by first | rfl | (simp; done) | (simp [*]; done)), (by first | rfl | (simp; done) | (simp [*]; done)), H', ⟨Nat.le_refl _⟩, by repeat (first | exact Drawn0.refl _ | apply Drawn0.step)⟩
 case round =>
  clear H'
  try clear p2
  obtain ⟨x0_1, x1_1, x5_1, rfl, rfl, rfl, HA, HK1, ⟨m1, rfl⟩⟩ := hrel
  cases gk with
  | zero => exact absurd HA.out (by simp [wageofficeref27_powerQ.l0])
  | succ k1 =>
   have H := HA.out
   clear HA
   simp only [wageofficeref27_powerQ.l0] at H
   by_cases c3 : x1_1 > 0
   ·rw [if_pos c3] at H
    have c3b0 : decide (0 < x1_1) = true := decide_eq_true c3
    clear c3
    by_cases c4 : (Int.tmod x1_1 2) = 1
    ·rw [if_pos c4] at H
     have c4b0 : ((Int.tmod x1_1 2) == 1) = true := beq_iff_eq.mpr c4
     have c4b1 : ((Int.tmod x1_1 2) != 1) = false := bne_eq_false_iff_eq.mpr c4
     clear c4
     have H' := Aside0.mk H
     clear H
     go_wp2
     go_roundg k1
     case measure => have := HK1.out; omega
     case rel => exact ⟨(Int.tmod (wrap64 (x0_1 * x0_1)) 1073741789), (wrap64 (Int.tdiv x1_1 2)), (Int.tmod (wrap64 (x5_1 * x0_1)) 1073741789), (by first | rfl | (simp; done) | (simp [*]; done)), (by first | rfl | (simp; done) | (simp [*]; done)), (by first | rfl | (simp; done) | (simp [*]; done)), H', ⟨by have := HK1.out; omega⟩, by repeat (first | exact Drawn0.refl _ | apply Drawn0.step)⟩
    ·rw [if_neg c4] at H
     have c4b0 : ((Int.tmod x1_1 2) == 1) = false := beq_eq_false_iff_ne.mpr c4
     have c4b1 : ((Int.tmod x1_1 2) != 1) = true := bne_iff_ne.mpr c4
     have H' := Aside0.mk H
     clear H
     go_wp2
     go_roundg k1
     case measure => have := HK1.out; omega
     case rel => exact ⟨(Int.tmod (wrap64 (x0_1 * x0_1)) 1073741789), (wrap64 (Int.tdiv x1_1 2)), (x5_1), (by first | rfl | (simp; done) | (simp [*]; done)), (by first | rfl | (simp; done) | (simp [*]; done)), (by first | rfl | (simp; done) | (simp [*]; done)), H', ⟨by have := HK1.out; omega⟩, by repeat (first | exact Drawn0.refl _ | apply Drawn0.step)⟩
   ·rw [if_neg c3] at H
    have c3b0 : decide (0 < x1_1) = false := decide_eq_false c3
    clear c3
    obtain rfl := Option.some.inj H
    go_wp2
    go_ret
    exact ⟨by first | rfl | (simp; done) | (simp [*]; done), by repeat (first | exact Drawn0.refl _ | apply Drawn0.step)⟩

-- GIVEN BY A TEXT OF ITS OWN: function 13 (wageofficeref27_Extract)

end Go.Proofs.YtnlgnmlobklobaaDoor.PAll
