-- Written by myprint.py over the kit's print.py (a printed text of this session's own make).
import Derived.Test.YtnlgnmlobklobaaDoorPAllx0
-- HALF the printed indentation
namespace Go.Proofs.YtnlgnmlobklobaaDoor.PAll
open Go.Proofs.YtnlgnmlobklobaaDoor.Stub Go.Proofs.YtnlgnmlobklobaaDoor.Com Go.Proofs.YtnlgnmlobklobaaDoor.Hash
open Go.RowKit Go.Proofs.YtnlgnmlobklobaaDoorW.PrintWords Go.Proofs.YtnlgnmlobklobaaDoorW.PrintLast Go.Proofs.YtnlgnmlobklobaaDoorW.PrintMore
attribute [local go_sem] max2_int min2_int max_two min_two max_three min_three max_four min_four   -- for this text's walks alone
set_option linter.unusedVariables false
set_option linter.unusedSimpArgs false

/-! ### rangeproof_isNumber: function 23 -/
def rangeproof_isNumber.f (a0 : Int) : Option (Bool) := if a0 ≥ 0 then (some (decide (a0 < 1073741789))) else (some false)
set_option maxHeartbeats 8000000 in
set_option maxRecDepth 100000 in
theorem rangeproof_isNumber.calls (a0 : Int) (r : Bool) (w : World) (h : rangeproof_isNumber.f a0 = some r) :
  Calls Tryd.prog 23 #[.int .i64 a0] w fun e w' => e = .returned (.bool r) ∧ Drawn0 w w' := by
 have H : (if a0 ≥ 0 then (some (decide (a0 < 1073741789))) else (some false)) = some r := h
 clear h
 by_cases c2 : a0 ≥ 0
 ·rw [if_pos c2] at H
  have c2b0 : decide (0 ≤ a0) = true := decide_eq_true c2
  clear c2
  obtain rfl := Option.some.inj H
  go_enter Tryd.func23, Tryd.ntmps23
  go_wp2
  go_ret
  exact ⟨by first | rfl | (simp; done) | (simp [*]; done), by repeat (first | exact Drawn0.refl _ | apply Drawn0.step)⟩
 ·rw [if_neg c2] at H
  have c2b0 : decide (0 ≤ a0) = false := decide_eq_false c2
  clear c2
  obtain rfl := Option.some.inj H
  go_enter Tryd.func23, Tryd.ntmps23
  go_wp2
  go_ret
  exact ⟨by first | rfl | (simp; done) | (simp [*]; done), by repeat (first | exact Drawn0.refl _ | apply Drawn0.step)⟩

-- NOT PRINTED: function 42 (digest_state_digest)

-- GIVEN BY A TEXT OF ITS OWN: function 21 (digest_Sum)

-- NOT PRINTED: function 67 (abi_NoEscape)

-- NOT PRINTED: function 61 (strings_Builder_copyCheck)

-- NOT PRINTED: function 43 (strings_Builder_WriteString)

-- NOT PRINTED: function 44 (strings_Builder_WriteByte)

/-! ### commitment_isExponent: function 38 -/
def commitment_isExponent.f (a0 : Int) : Option (Bool) := if a0 ≥ 0 then (some (decide (a0 < 1073741789))) else (some false)
set_option maxHeartbeats 8000000 in
set_option maxRecDepth 100000 in
theorem commitment_isExponent.calls (a0 : Int) (r : Bool) (w : World) (h : commitment_isExponent.f a0 = some r) :
  Calls Tryd.prog 38 #[.int .i64 a0] w fun e w' => e = .returned (.bool r) ∧ Drawn0 w w' := by
 have H : (if a0 ≥ 0 then (some (decide (a0 < 1073741789))) else (some false)) = some r := h
 clear h
 by_cases c2 : a0 ≥ 0
 ·rw [if_pos c2] at H
  have c2b0 : decide (0 ≤ a0) = true := decide_eq_true c2
  clear c2
  obtain rfl := Option.some.inj H
  go_enter Tryd.func38, Tryd.ntmps38
  go_wp2
  go_ret
  exact ⟨by first | rfl | (simp; done) | (simp [*]; done), by repeat (first | exact Drawn0.refl _ | apply Drawn0.step)⟩
 ·rw [if_neg c2] at H
  have c2b0 : decide (0 ≤ a0) = false := decide_eq_false c2
  clear c2
  obtain rfl := Option.some.inj H
  go_enter Tryd.func38, Tryd.ntmps38
  go_wp2
  go_ret
  exact ⟨by first | rfl | (simp; done) | (simp [*]; done), by repeat (first | exact Drawn0.refl _ | apply Drawn0.step)⟩

-- GIVEN BY A TEXT OF ITS OWN: function 17 (commitment_Commit)

/-! ### rangeproof_element_times: function 34 -/
def rangeproof_element_times.f (a0 : Int) (a1 : Int) : Option (Int) := some (Int.tmod (wrap64 (a0 * a1)) 2147483579)
set_option maxHeartbeats 8000000 in
set_option maxRecDepth 100000 in
theorem rangeproof_element_times.calls (a0 : Int) (a1 : Int) (r : Int) (w : World) (h : rangeproof_element_times.f a0 a1 = some r) :
  Calls Tryd.prog 34 #[.int .i64 a0, .int .i64 a1] w fun e w' => e = .returned (.int .i64 r) ∧ Drawn0 w w' := by
 have H : (some (Int.tmod (wrap64 (a0 * a1)) 2147483579)) = some r := h
 clear h
 obtain rfl := Option.some.inj H
 go_enter Tryd.func34, Tryd.ntmps34
 go_wp2
 go_ret
 exact ⟨by first | rfl | (simp; done) | (simp [*]; done), by repeat (first | exact Drawn0.refl _ | apply Drawn0.step)⟩

/-! ### rangeproof_element_to: function 35 -/
def rangeproof_element_to.f (a0 : Int) (a1 : Int) : Option (Int) := (commitment_Power.f a0 a1).bind fun t120 => (some t120)
set_option maxHeartbeats 8000000 in
set_option maxRecDepth 100000 in
theorem rangeproof_element_to.calls (a0 : Int) (a1 : Int) (r : Int) (w : World) (h : rangeproof_element_to.f a0 a1 = some r) :
  Calls Tryd.prog 35 #[.int .i64 a0, .int .i64 a1] w fun e w' => e = .returned (.int .i64 r) ∧ Below w.heap.size w w' := by
 have HB := Aside0.mk (Below.refl w.heap.size w)
 have H : ((commitment_Power.f a0 a1).bind fun t120 => (some t120)) = some r := h
 clear h
 replace H := Option.bind_eq_some_iff.mp H
 obtain ⟨t120, A30, H⟩ := H
 replace H : (some t120) = some r := H
 have A3 := Aside0.mk A30
 clear A30
 obtain rfl := Option.some.inj H
 go_enter Tryd.func35, Tryd.ntmps35
 go_wp2_with (first | ((with_reducible refine gate_callee (f := 18) rfl ?_); refine goesL_ (some 7) rfl rfl Tryd.func18 (by kernel_rfl) rfl #[.int .i64 a0, .int .i64 a1] rfl (by (try simp only [List.map_toArray, List.map_cons, List.map_nil]); first | done | rfl | (simp only [List.length_drop, List.length_take]; rfl)) ?_; (with_reducible refine (commitment_Power.calls a0 a1 t120 _ A3.out).mono ?_); rintro e w4 ⟨rfl, hb⟩; refine ⟨_, rfl, ?_⟩; have n0_ := Aside0.mk (below_step (by repeat (first | (with_reducible first | exact HB.out | apply below_alloc | apply pw_below_drewN | apply below_drew1) | exact HB.out)) hb); clear HB; have HB := n0_; clear n0_; (try clear hb); (try clear hb2); (try clear hk); (try clear hi)))
 go_ret
 exact ⟨by first | rfl | (simp [errW_none, errW_some] <;> rfl) | (simp [*, errW_none, errW_some] <;> rfl), by repeat (first | (with_reducible first | exact HB.out | apply below_alloc | apply pw_below_drewN | apply below_drew1) | exact HB.out)⟩

-- NOT PRINTED: function 47 (rangeproof_sides)

/-! ### rangeproof_element_inverse: function 48 -/
def rangeproof_element_inverse.f (a0 : Int) : Option (Int) := (rangeproof_element_to.f a0 1073741788).bind fun t121 => (some t121)
set_option maxHeartbeats 8000000 in
set_option maxRecDepth 100000 in
theorem rangeproof_element_inverse.calls (a0 : Int) (r : Int) (w : World) (h : rangeproof_element_inverse.f a0 = some r) :
  Calls Tryd.prog 48 #[.int .i64 a0] w fun e w' => e = .returned (.int .i64 r) ∧ Below w.heap.size w w' := by
 have HB := Aside0.mk (Below.refl w.heap.size w)
 have H : ((rangeproof_element_to.f a0 1073741788).bind fun t121 => (some t121)) = some r := h
 clear h
 replace H := Option.bind_eq_some_iff.mp H
 obtain ⟨t121, A20, H⟩ := H
 replace H : (some t121) = some r := H
 have A2 := Aside0.mk A20
 clear A20
 obtain rfl := Option.some.inj H
 go_enter Tryd.func48, Tryd.ntmps48
 go_wp2_with (first | ((with_reducible refine gate_callee (f := 35) rfl ?_); refine goesL_ (some 4) rfl rfl Tryd.func35 (by kernel_rfl) rfl #[.int .i64 a0, .int .i64 1073741788] rfl (by (try simp only [List.map_toArray, List.map_cons, List.map_nil]); first | done | rfl | (simp only [List.length_drop, List.length_take]; rfl)) ?_; (with_reducible refine (rangeproof_element_to.calls a0 1073741788 t121 _ A2.out).mono ?_); rintro e w3 ⟨rfl, hb⟩; refine ⟨_, rfl, ?_⟩; have n0_ := Aside0.mk (below_step (by repeat (first | (with_reducible first | exact HB.out | apply below_alloc | apply pw_below_drewN | apply below_drew1) | exact HB.out)) hb); clear HB; have HB := n0_; clear n0_; (try clear hb); (try clear hb2); (try clear hk); (try clear hi)))
 go_ret
 exact ⟨by first | rfl | (simp [errW_none, errW_some] <;> rfl) | (simp [*, errW_none, errW_some] <;> rfl), by repeat (first | (with_reducible first | exact HB.out | apply below_alloc | apply pw_below_drewN | apply below_drew1) | exact HB.out)⟩

-- GIVEN BY A TEXT OF ITS OWN: function 25 (rangeproof_proveBit)

end Go.Proofs.YtnlgnmlobklobaaDoor.PAll
