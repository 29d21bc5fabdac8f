-- Written by myprint.py over the kit's print.py (a printed text of this session's own make).
import Derived.Test.YtnlgnmlobklobaaDoorStubRf
import Derived.Test.YtnlgnmlobklobaaDoorPAllx0
import Derived.Test.YtnlgnmlobklobaaDoorPAllx6
-- HALF the printed indentation
namespace Go.Proofs.YtnlgnmlobklobaaDoor.PAll
open Go.Proofs.YtnlgnmlobklobaaDoor.Stub Go.Proofs.YtnlgnmlobklobaaDoor.Com Go.Proofs.YtnlgnmlobklobaaDoor.Hash
open Go.RowKit Go.Proofs.YtnlgnmlobklobaaDoorW.PrintWords Go.Proofs.YtnlgnmlobklobaaDoorW.PrintLast Go.Proofs.YtnlgnmlobklobaaDoorW.PrintMore
attribute [local go_sem] max2_int min2_int max_two min_two max_three min_three max_four min_four   -- for this text's walks alone
set_option linter.unusedVariables false
set_option linter.unusedSimpArgs false

/-! ### wageofficeref27_Prove: function 11 -/
mutual
def wageofficeref27_Prove.j0 : Nat → Int → Int → Int → ByteArray → Bool → Option ((List (S25)) × Int)
 | 0, _, _, _, _, _ => none
 | k + 1, x0, x1, x2, x3, x25 => if x25 = true then (some (([] : List (S25)), 1)) else (if x0 < 0 then (wageofficeref27_Prove.j1 k x0 x1 x2 x3 true) else ((wageofficeref27_power2.f k x2).bind fun t214 => (wageofficeref27_Prove.j1 k x0 x1 x2 x3 (decide (x0 ≥ t214)))))
def wageofficeref27_Prove.j1 : Nat → Int → Int → Int → ByteArray → Bool → Option ((List (S25)) × Int)
 | 0, _, _, _, _, _ => none
 | k + 1, x0, x1, x2, x3, x33 => if x33 = true then (some (([] : List (S25)), 3)) else (wageofficeref27_Prove.l0 k x0 x2 x3 x1 1)
def wageofficeref27_Prove.l0 : Nat → Int → Int → ByteArray → Int → Int → Option ((List (S25)) × Int)
 | 0, _, _, _, _, _ => none
 | k + 1, x0, x2, x3, x10, x11 => if x11 < x2 then ((wageofficeref27_power2.f k x11).bind fun t215 => ((wageofficeref27_random.f k x3 x11 0).bind fun t216 => (wageofficeref27_Prove.l0 k x0 x2 x3 (Int.tmod (wrap64 ((wrap64 (x10 + 1073741789)) - (Int.tmod (wrap64 (t215 * t216)) 1073741789))) 1073741789) (wrap64 (x11 + 1))))) else (wageofficeref27_Prove.l1 k x0 x2 x3 x10 ([] : List (S25)) 0)
def wageofficeref27_Prove.l1 : Nat → Int → Int → ByteArray → Int → List (S25) → Int → Option ((List (S25)) × Int)
 | 0, _, _, _, _, _, _ => none
 | k + 1, x0, x2, x3, x10, x12, x13 => if x13 < x2 then (if x13 > 0 then ((wageofficeref27_random.f k x3 x13 0).bind fun t217 => ((wageofficeref27_power2.f k x13).bind fun t218 => (if t218 = 0 then (none) else ((wageofficeref27_bit.f (Int.tmod (wrap64 (Int.tdiv x0 t218)) 2) t217 x3 x13).bind fun bt219 => (if x12.length < 2513169434916 then (wageofficeref27_Prove.l1 k x0 x2 x3 x10 (x12 ++ [(⟨bt219.1, (⟨bt219.2.1, bt219.2.2.1⟩ : S23), (⟨bt219.2.2.2.1, bt219.2.2.2.2.1⟩ : S23), (⟨bt219.2.2.2.2.2.1, bt219.2.2.2.2.2.2⟩ : S23)⟩ : S25)]) (wrap64 (x13 + 1))) else (none)))))) else ((wageofficeref27_power2.f k x13).bind fun t229 => (if t229 = 0 then (none) else ((wageofficeref27_bit.f (Int.tmod (wrap64 (Int.tdiv x0 t229)) 2) x10 x3 x13).bind fun bt230 => (if x12.length < 2513169434916 then (wageofficeref27_Prove.l1 k x0 x2 x3 x10 (x12 ++ [(⟨bt230.1, (⟨bt230.2.1, bt230.2.2.1⟩ : S23), (⟨bt230.2.2.2.1, bt230.2.2.2.2.1⟩ : S23), (⟨bt230.2.2.2.2.2.1, bt230.2.2.2.2.2.2⟩ : S23)⟩ : S25)]) (wrap64 (x13 + 1))) else (none)))))) else (some (x12, 0))
end
def wageofficeref27_Prove.f (k : Nat) (a0 : Int) (a1 : Int) (a2 : Int) (a3 : ByteArray) : Option ((List (S25)) × Int) := if a2 < 1 then (wageofficeref27_Prove.j0 k a0 a1 a2 a3 true) else (if a2 > 28 then (wageofficeref27_Prove.j0 k a0 a1 a2 a3 true) else ((wageofficeref27_number.f a1).bind fun t213 => (wageofficeref27_Prove.j0 k a0 a1 a2 a3 (!t213))))
set_option maxHeartbeats 8000000 in
set_option maxRecDepth 100000 in
theorem wageofficeref27_Prove.calls (k : Nat) (a0 : Int) (a1 : Int) (a2 : Int) (a3 : ByteArray) (r1 : List (S25)) (r2 : Int) (w : World) (h : wageofficeref27_Prove.f k a0 a1 a2 a3 = some (r1, r2)) :
  Calls Tryd.prog 11 #[.int .i64 a0, .int .i64 a1, .int .i64 a2, .string a3] w fun e w' => ∃ v0_ : Value, e = .returned (.tuple #[v0_, .int .i64 r2]) ∧ Kd.R k25 25 w' w.heap.size (fun _ => True) v0_ r1 ∧ Below w.heap.size w w' := by
 have HB := Aside0.mk (Below.refl w.heap.size w)
 have H : (if a2 < 1 then (wageofficeref27_Prove.j0 k a0 a1 a2 a3 true) else (if a2 > 28 then (wageofficeref27_Prove.j0 k a0 a1 a2 a3 true) else ((wageofficeref27_number.f a1).bind fun t213 => (wageofficeref27_Prove.j0 k a0 a1 a2 a3 (!t213))))) = some (r1, r2) := h
 clear h
 have HC5 := Aside0.mk H
 clear H
 go_enter Tryd.func11, Tryd.ntmps11
 go_upto_region 1 with (fail)
 go_cut [25] (fun v25 wc => ∃ (kq : Nat) (x25_4 : Bool), v25 = .bool x25_4 ∧ Aside0 (wageofficeref27_Prove.j0 kq a0 a1 a2 a3 x25_4 = some (r1, r2)) ∧ Aside0 (kq ≤ k) ∧ Aside0 (Below w.heap.size w wc))
 case first =>
  have H := HC5.out
  clear HC5
  by_cases c6 : a2 < 1
  ·rw [if_pos c6] at H
   have c6b0 : decide (a2 < 1) = true := decide_eq_true c6
   clear c6
   (first | rw [c6b0] | (simp only [i64_w, i32_w]; rw [c6b0]) | skip)
   have H' := Aside0.mk H
   clear H
   go_wp2
   go_meet
   case rel => exact ⟨_, (true), (by first | rfl | (simp; done) | (simp [*]; done)), H', ⟨by first | omega | exact Nat.le_refl _⟩, ⟨by repeat (first | (with_reducible first | exact HB.out | apply below_alloc | apply pw_below_drewN | apply below_drew1) | exact HB.out)⟩⟩
  ·rw [if_neg c6] at H
   have c6b0 : decide (a2 < 1) = false := decide_eq_false c6
   clear c6
   (first | rw [c6b0] | (simp only [i64_w, i32_w]; rw [c6b0]) | skip)
   by_cases c7 : a2 > 28
   ·rw [if_pos c7] at H
    have c7b0 : decide (28 < a2) = true := decide_eq_true c7
    clear c7
    have H' := Aside0.mk H
    clear H
    go_wp2
    go_meet
    case rel => exact ⟨_, (true), (by first | rfl | (simp; done) | (simp [*]; done)), H', ⟨by first | omega | exact Nat.le_refl _⟩, ⟨by repeat (first | (with_reducible first | exact HB.out | apply below_alloc | apply pw_below_drewN | apply below_drew1) | exact HB.out)⟩⟩
   ·rw [if_neg c7] at H
    have c7b0 : decide (28 < a2) = false := decide_eq_false c7
    clear c7
    replace H := Option.bind_eq_some_iff.mp H
    obtain ⟨t213, A80, H⟩ := H
    replace H : (wageofficeref27_Prove.j0 k a0 a1 a2 a3 (!t213)) = some (r1, r2) := H
    have A8 := Aside0.mk A80
    clear A80
    have H' := Aside0.mk H
    clear H
    go_wp2_with (first | (go_at_call 26; (with_reducible refine (wageofficeref27_number.calls a1 t213 _ A8.out).mono ?_); rintro e w' ⟨rfl, ⟨nd, rfl⟩⟩))
    go_meet
    case rel => exact ⟨_, (!t213), (by first | rfl | (simp; done) | (simp [*]; done)), H', ⟨by first | omega | exact Nat.le_refl _⟩, ⟨by repeat (first | (with_reducible first | exact HB.out | apply below_alloc | apply pw_below_drewN | apply below_drew1) | exact HB.out)⟩⟩
 case rest =>
  clear HC5
  try clear c1
  try clear p2
  try clear c6
  try clear c6b0
  try clear c7
  try clear c7b0
  obtain ⟨kq, x25_4, rfl, HA, HJ4, HB⟩ := hcut
  cases kq with
  | zero => exact absurd HA.out (by simp [wageofficeref27_Prove.j0])
  | succ kj4 =>
   have H := HA.out
   clear HA
   simp only [wageofficeref27_Prove.j0] at H
   by_cases c9 : x25_4 = true
   ·subst c9
    have H1 : (some (([] : List (S25)), 1)) = some (r1, r2) := by rw [if_pos rfl] at H; exact H
    clear H
    have H := H1
    clear H1
    simp only [Option.some.injEq, Prod.mk.injEq] at H
    obtain ⟨rfl, rfl⟩ := H
    go_wp2
    go_ret2
    exact ⟨_, by first | rfl | (simp [errW_none, errW_some] <;> rfl) | (simp [*, errW_none, errW_some] <;> rfl), by first | exact Kd.R_nil _ _ _ _ _ | exact Kd.N_nil _ _ _ _ _ | exact Kd.V_nil _ _ _ _ _ | exact Kd.Q_nil _ _ _ _ _ | exact Kd.S_nil _ _ _ _ _, by repeat (first | (with_reducible first | exact HB.out | apply below_alloc | apply pw_below_drewN | apply below_drew1) | exact HB.out)⟩
   ·replace c9 := Bool.eq_false_iff.mpr c9
    subst c9
    have H1 : (if a0 < 0 then (wageofficeref27_Prove.j1 kj4 a0 a1 a2 a3 true) else ((wageofficeref27_power2.f kj4 a2).bind fun t214 => (wageofficeref27_Prove.j1 kj4 a0 a1 a2 a3 (decide (a0 ≥ t214))))) = some (r1, r2) := by rw [if_neg (show ¬ (false = true) by decide)] at H; exact H
    clear H
    have H := H1
    clear H1
    have HC10 := Aside0.mk H
    clear H
    go_upto_region 3 with (fail)
    go_cut [33] (fun v33 wc => ∃ (kq : Nat) (x33_9 : Bool), v33 = .bool x33_9 ∧ Aside0 (wageofficeref27_Prove.j1 kq a0 a1 a2 a3 x33_9 = some (r1, r2)) ∧ Aside0 (kq ≤ kj4) ∧ Aside0 (Below w.heap.size w wc))
    case first =>
     have H := HC10.out
     clear HC10
     by_cases c11 : a0 < 0
     ·rw [if_pos c11] at H
      have c11b0 : decide (a0 < 0) = true := decide_eq_true c11
      clear c11
      (first | rw [c11b0] | (simp only [i64_w, i32_w]; rw [c11b0]) | skip)
      have H' := Aside0.mk H
      clear H
      go_wp2
      go_meet
      case rel => exact ⟨_, (true), (by first | rfl | (simp; done) | (simp [*]; done)), H', ⟨by have := HJ4.out; first | omega | exact Nat.le_refl _⟩, ⟨by repeat (first | (with_reducible first | exact HB.out | apply below_alloc | apply pw_below_drewN | apply below_drew1) | exact HB.out)⟩⟩
     ·rw [if_neg c11] at H
      have c11b0 : decide (a0 < 0) = false := decide_eq_false c11
      clear c11
      (first | rw [c11b0] | (simp only [i64_w, i32_w]; rw [c11b0]) | skip)
      replace H := Option.bind_eq_some_iff.mp H
      obtain ⟨t214, A120, H⟩ := H
      replace H : (wageofficeref27_Prove.j1 kj4 a0 a1 a2 a3 (decide (a0 ≥ t214))) = some (r1, r2) := H
      have A12 := Aside0.mk A120
      clear A120
      have H' := Aside0.mk H
      clear H
      go_wp2_with (first | (go_at_call 27; (with_reducible refine (wageofficeref27_power2.calls kj4 a2 t214 _ A12.out).mono ?_); rintro e w' ⟨rfl, ⟨nd, rfl⟩⟩))
      go_meet
      case rel => exact ⟨_, (decide (a0 ≥ t214)), (by first | rfl | (simp; done) | (simp [*]; done)), H', ⟨by have := HJ4.out; first | omega | exact Nat.le_refl _⟩, ⟨by repeat (first | (with_reducible first | exact HB.out | apply below_alloc | apply pw_below_drewN | apply below_drew1) | exact HB.out)⟩⟩
    case rest =>
     clear HC10
     try clear c1
     try clear p2
     try clear c6
     try clear c6b0
     try clear c7
     try clear c7b0
     try clear c9
     try clear c11
     try clear c11b0
     try clear p2
     obtain ⟨kq, x33_9, rfl, HA, HJ9, HB⟩ := hcut
     cases kq with
     | zero => exact absurd HA.out (by simp [wageofficeref27_Prove.j1])
     | succ kj9 =>
      have H := HA.out
      clear HA
      simp only [wageofficeref27_Prove.j1] at H
      by_cases c13 : x33_9 = true
      ·subst c13
       have H1 : (some (([] : List (S25)), 3)) = some (r1, r2) := by rw [if_pos rfl] at H; exact H
       clear H
       have H := H1
       clear H1
       simp only [Option.some.injEq, Prod.mk.injEq] at H
       obtain ⟨rfl, rfl⟩ := H
       go_wp2
       go_ret2
       exact ⟨_, by first | rfl | (simp [errW_none, errW_some] <;> rfl) | (simp [*, errW_none, errW_some] <;> rfl), by first | exact Kd.R_nil _ _ _ _ _ | exact Kd.N_nil _ _ _ _ _ | exact Kd.V_nil _ _ _ _ _ | exact Kd.Q_nil _ _ _ _ _ | exact Kd.S_nil _ _ _ _ _, by repeat (first | (with_reducible first | exact HB.out | apply below_alloc | apply pw_below_drewN | apply below_drew1) | exact HB.out)⟩
      ·replace c13 := Bool.eq_false_iff.mpr c13
       subst c13
       have H1 : (wageofficeref27_Prove.l0 kj9 a0 a2 a3 a1 1) = some (r1, r2) := by rw [if_neg (show ¬ (false = true) by decide)] at H; exact H
       clear H
       have H := H1
       clear H1
       have H' := Aside0.mk H
       clear H
       go_wp2
       go_loopg [10, 11] kj9 (fun kq v10 v11 w' => ∃ (x10_3 : Int) (x11_3 : Int), v10 = .int .i64 x10_3 ∧ v11 = .int .i64 x11_3 ∧ Aside0 (wageofficeref27_Prove.l0 kq a0 a2 a3 x10_3 x11_3 = some (r1, r2)) ∧ Aside0 (kq ≤ kj9) ∧ Aside0 (Below w.heap.size w w'))
       case atStart => exact ⟨(a1), (1), (by first | rfl | (simp; done) | (simp [*]; done)), (by first | rfl | (simp; done) | (simp [*]; done)), H', ⟨Nat.le_refl _⟩, ⟨by repeat (first | (with_reducible first | exact HB.out | apply below_alloc | apply pw_below_drewN | apply below_drew1) | exact HB.out)⟩⟩
       case round =>
        clear H'
        try clear c1
        try clear p2
        try clear c6
        try clear c6b0
        try clear c7
        try clear c7b0
        try clear c9
        try clear c11
        try clear c11b0
        try clear c13
        try clear p2
        obtain ⟨x10_3, x11_3, rfl, rfl, HA, HK3, HB⟩ := hrel
        cases gk with
        | zero => exact absurd HA.out (by simp [wageofficeref27_Prove.l0])
        | succ k3 =>
         have H := HA.out
         clear HA
         simp only [wageofficeref27_Prove.l0] at H
         by_cases c14 : x11_3 < a2
         ·rw [if_pos c14] at H
          have c14b0 : decide (x11_3 < a2) = true := decide_eq_true c14
          clear c14
          replace H := Option.bind_eq_some_iff.mp H
          obtain ⟨t215, A150, H⟩ := H
          replace H : ((wageofficeref27_random.f k3 a3 x11_3 0).bind fun t216 => (wageofficeref27_Prove.l0 k3 a0 a2 a3 (Int.tmod (wrap64 ((wrap64 (x10_3 + 1073741789)) - (Int.tmod (wrap64 (t215 * t216)) 1073741789))) 1073741789) (wrap64 (x11_3 + 1)))) = some (r1, r2) := H
          have A15 := Aside0.mk A150
          clear A150
          replace H := Option.bind_eq_some_iff.mp H
          obtain ⟨t216, A160, H⟩ := H
          replace H : (wageofficeref27_Prove.l0 k3 a0 a2 a3 (Int.tmod (wrap64 ((wrap64 (x10_3 + 1073741789)) - (Int.tmod (wrap64 (t215 * t216)) 1073741789))) 1073741789) (wrap64 (x11_3 + 1))) = some (r1, r2) := H
          have A16 := Aside0.mk A160
          clear A160
          have H' := Aside0.mk H
          clear H
          go_wp2_with (first | ((with_reducible refine gate_callee (f := 27) rfl ?_); refine goesL_ (some 43) rfl rfl Tryd.func27 (by kernel_rfl) rfl #[.int .i64 x11_3] rfl (by (try simp only [List.map_toArray, List.map_cons, List.map_nil]); first | done | rfl | (simp only [List.length_drop, List.length_take]; rfl)) ?_; (with_reducible refine (wageofficeref27_power2.calls k3 x11_3 t215 _ A15.out).mono ?_); rintro e w' ⟨rfl, ⟨nd, rfl⟩⟩; refine ⟨_, rfl, ?_⟩) | ((with_reducible refine gate_callee (f := 28) rfl ?_); refine goesL_ (some 46) rfl rfl Tryd.func28 (by kernel_rfl) rfl #[.string a3, .int .i64 x11_3, .int .i64 0] rfl (by (try simp only [List.map_toArray, List.map_cons, List.map_nil]); first | done | rfl | (simp only [List.length_drop, List.length_take]; rfl)) ?_; (with_reducible refine (wageofficeref27_random.calls k3 a3 x11_3 0 t216 _ A16.out).mono ?_); rintro e w17 ⟨rfl, hb⟩; refine ⟨_, rfl, ?_⟩; have n0_ := Aside0.mk (below_step (by repeat (first | (with_reducible first | exact HB.out | apply below_alloc | apply pw_below_drewN | apply below_drew1) | exact HB.out)) hb); clear HB; have HB := n0_; clear n0_; (try clear hb); (try clear hb2); (try clear hk); (try clear hi)))
          go_roundg k3
          case measure => have := HJ4.out; have := HJ9.out; have := HK3.out; omega
          case rel => exact ⟨(Int.tmod (wrap64 ((wrap64 (x10_3 + 1073741789)) - (Int.tmod (wrap64 (t215 * t216)) 1073741789))) 1073741789), (wrap64 (x11_3 + 1)), (by first | rfl | (simp; done) | (simp [*]; done)), (by first | rfl | (simp; done) | (simp [*]; done)), H', ⟨by have := HJ4.out; have := HJ9.out; have := HK3.out; omega⟩, ⟨by repeat (first | (with_reducible first | exact HB.out | apply below_alloc | apply pw_below_drewN | apply below_drew1) | exact HB.out)⟩⟩
         ·rw [if_neg c14] at H
          have c14b0 : decide (x11_3 < a2) = false := decide_eq_false c14
          clear c14
          have H' := Aside0.mk H
          clear H
          go_wp2
          go_loopg [12, 13] k3 (fun kq v12 v13 w' => ∃ (x12_4 : List (S25)) (x13_4 : Int), v13 = .int .i64 x13_4 ∧ Aside0 (wageofficeref27_Prove.l1 kq a0 a2 a3 x10_3 x12_4 x13_4 = some (r1, r2)) ∧ Aside0 (kq ≤ k3) ∧ Aside0 (Kd.R k25 25 w' w.heap.size (fun _ => True) v12 x12_4) ∧ Aside0 (Below w.heap.size w w'))
          case atStart => exact ⟨(([] : List (S25))), (0), (by first | rfl | (simp; done) | (simp [*]; done)), H', ⟨Nat.le_refl _⟩, ⟨by first | exact Kd.R_nil _ _ _ _ _ | exact Kd.N_nil _ _ _ _ _ | exact Kd.V_nil _ _ _ _ _ | exact Kd.Q_nil _ _ _ _ _ | exact Kd.S_nil _ _ _ _ _⟩, ⟨by repeat (first | (with_reducible first | exact HB.out | apply below_alloc | apply pw_below_drewN | apply below_drew1) | exact HB.out)⟩⟩
          case round =>
           clear H'
           try clear c1
           try clear c2
           try clear p2
           try clear c6
           try clear c6b0
           try clear p6
           try clear c7
           try clear c7b0
           try clear c9
           try clear c11
           try clear c11b0
           try clear c13
           try clear c14
           try clear c14b0
           try clear p2
           obtain ⟨x12_4, x13_4, rfl, HA, HK4, HO_12, HB⟩ := hrel
           cases gk with
           | zero => exact absurd HA.out (by simp [wageofficeref27_Prove.l1])
           | succ k4 =>
            have H := HA.out
            clear HA
            simp only [wageofficeref27_Prove.l1] at H
            by_cases c18 : x13_4 < a2
            ·rw [if_pos c18] at H
             have c18b0 : decide (x13_4 < a2) = true := decide_eq_true c18
             clear c18
             by_cases c19 : x13_4 > 0
             ·rw [if_pos c19] at H
              have c19b0 : decide (0 < x13_4) = true := decide_eq_true c19
              clear c19
              replace H := Option.bind_eq_some_iff.mp H
              obtain ⟨t217, A200, H⟩ := H
              replace H : ((wageofficeref27_power2.f k4 x13_4).bind fun t218 => (if t218 = 0 then (none) else ((wageofficeref27_bit.f (Int.tmod (wrap64 (Int.tdiv a0 t218)) 2) t217 a3 x13_4).bind fun bt219 => (if x12_4.length < 2513169434916 then (wageofficeref27_Prove.l1 k4 a0 a2 a3 x10_3 (x12_4 ++ [(⟨bt219.1, (⟨bt219.2.1, bt219.2.2.1⟩ : S23), (⟨bt219.2.2.2.1, bt219.2.2.2.2.1⟩ : S23), (⟨bt219.2.2.2.2.2.1, bt219.2.2.2.2.2.2⟩ : S23)⟩ : S25)]) (wrap64 (x13_4 + 1))) else (none))))) = some (r1, r2) := H
              have A20 := Aside0.mk A200
              clear A200
              replace H := Option.bind_eq_some_iff.mp H
              obtain ⟨t218, A210, H⟩ := H
              replace H : (if t218 = 0 then (none) else ((wageofficeref27_bit.f (Int.tmod (wrap64 (Int.tdiv a0 t218)) 2) t217 a3 x13_4).bind fun bt219 => (if x12_4.length < 2513169434916 then (wageofficeref27_Prove.l1 k4 a0 a2 a3 x10_3 (x12_4 ++ [(⟨bt219.1, (⟨bt219.2.1, bt219.2.2.1⟩ : S23), (⟨bt219.2.2.2.1, bt219.2.2.2.2.1⟩ : S23), (⟨bt219.2.2.2.2.2.1, bt219.2.2.2.2.2.2⟩ : S23)⟩ : S25)]) (wrap64 (x13_4 + 1))) else (none)))) = some (r1, r2) := H
              have A21 := Aside0.mk A210
              clear A210
              by_cases c22 : t218 = 0
              ·rw [if_pos c22] at H
               exact absurd H (by simp)
              ·rw [if_neg c22] at H
               have c22b0 : (t218 == 0) = false := beq_eq_false_iff_ne.mpr c22
               have c22b1 : (t218 != 0) = true := bne_iff_ne.mpr c22
               replace H := Option.bind_eq_some_iff.mp H
               obtain ⟨⟨t219, t220, t221, t222, t223, t224, t225⟩, A230, H⟩ := H
               replace H : (if x12_4.length < 2513169434916 then (wageofficeref27_Prove.l1 k4 a0 a2 a3 x10_3 (x12_4 ++ [(⟨t219, (⟨t220, t221⟩ : S23), (⟨t222, t223⟩ : S23), (⟨t224, t225⟩ : S23)⟩ : S25)]) (wrap64 (x13_4 + 1))) else (none)) = some (r1, r2) := H
               have A23 := Aside0.mk A230
               clear A230
               by_cases c24 : x12_4.length < 2513169434916
               ·rw [if_pos c24] at H
                have LMc24 := Aside0.mk c24
                clear c24
                obtain ⟨y226, hy226⟩ : ∃ y_ : List (S25), y_ = (x12_4 ++ [(⟨t219, (⟨t220, t221⟩ : S23), (⟨t222, t223⟩ : S23), (⟨t224, t225⟩ : S23)⟩ : S25)]) := ⟨_, rfl⟩
                replace H : (wageofficeref27_Prove.l1 k4 a0 a2 a3 x10_3 y226 (wrap64 (x13_4 + 1))) = some (r1, r2) := by first | (rw [hy226]; with_reducible exact H) | (have H2_ := (Option.bind_some _ _).symm.trans H; rw [hy226]; with_reducible exact H2_) | (have H2_ := (Option.bind_some _ _).symm.trans H; with_reducible exact H2_) | with_reducible exact H | (rw [hy226]; exact H) | exact H
                have Ny226 := Aside0.mk hy226
                clear hy226
                have H' := Aside0.mk H
                clear H
                go_wp2_with (first | ((with_reducible refine gate_callee (f := 28) rfl ?_); refine goesL_ (some 61) rfl rfl Tryd.func28 (by kernel_rfl) rfl #[.string a3, .int .i64 x13_4, .int .i64 0] rfl (by (try simp only [List.map_toArray, List.map_cons, List.map_nil]); first | done | rfl | (simp only [List.length_drop, List.length_take]; rfl)) ?_; (with_reducible refine (wageofficeref27_random.calls k4 a3 x13_4 0 t217 _ A20.out).mono ?_); rintro e w25 ⟨rfl, hb⟩; refine ⟨_, rfl, ?_⟩; have n0_ := Aside0.mk (Kd.R_below (by (with_reducible repeat (first | apply Kd.R_alloc | apply Kd.R_drewN | apply Kd.R_drew)); exact HO_12.out) hb); have n1_ := Aside0.mk (below_step (by repeat (first | (with_reducible first | exact HB.out | apply below_alloc | apply pw_below_drewN | apply below_drew1) | exact HB.out)) hb); clear HO_12; clear HB; have HO_12 := n0_; have HB := n1_; clear n0_ n1_; (try clear hb); (try clear hb2); (try clear hk); (try clear hi)) | ((with_reducible refine gate_callee (f := 27) rfl ?_); refine goesL_ (some 65) rfl rfl Tryd.func27 (by kernel_rfl) rfl #[.int .i64 x13_4] rfl (by (try simp only [List.map_toArray, List.map_cons, List.map_nil]); first | done | rfl | (simp only [List.length_drop, List.length_take]; rfl)) ?_; (with_reducible refine (wageofficeref27_power2.calls k4 x13_4 t218 _ A21.out).mono ?_); rintro e w' ⟨rfl, ⟨nd, rfl⟩⟩; refine ⟨_, rfl, ?_⟩) | ((with_reducible refine gate_callee (f := 29) rfl ?_); refine goesL_ (some 71) rfl rfl Tryd.func29 (by kernel_rfl) rfl #[.int .i64 (Int.tmod (wrap64 (Int.tdiv a0 t218)) 2), .int .i64 t217, .string a3, .int .i64 x13_4] rfl (by (try simp only [List.map_toArray, List.map_cons, List.map_nil]); first | done | rfl | (simp only [List.length_drop, List.length_take]; rfl)) ?_; (with_reducible refine (wageofficeref27_bit.calls (Int.tmod (wrap64 (Int.tdiv a0 t218)) 2) t217 a3 x13_4 t219 t220 t221 t222 t223 t224 t225 _ A23.out).mono ?_); rintro e w26 ⟨rfl, hb⟩; refine ⟨_, rfl, ?_⟩; have n0_ := Aside0.mk (Kd.R_below (by (with_reducible repeat (first | apply Kd.R_alloc | apply Kd.R_drewN | apply Kd.R_drew)); exact HO_12.out) hb); have n1_ := Aside0.mk (below_step (by repeat (first | (with_reducible first | exact HB.out | apply below_alloc | apply pw_below_drewN | apply below_drew1) | exact HB.out)) hb); clear HO_12; clear HB; have HO_12 := n0_; have HB := n1_; clear n0_ n1_; (try clear hb); (try clear hb2); (try clear hk); (try clear hi)) | ((with_reducible refine gate_builtin (b := .append) (xs := #[.tmp 62, .tmp 72]) rfl ?_); at_builtin; refine Kd.R_append k25 (w0 := w) w.heap.size rfl (.tmp 62) (.tmp 72) 22 25 (.agg #[(.int .i64 0), (.int .i64 0), (.int .i64 0), (.int .i64 0), (.int .i64 0), (.int .i64 0), (.int .i64 0)]) 56 rfl Tryd.underlying22 info25 rfl (by decide) (by omega) u12 x12_4 (⟨t219, (⟨t220, t221⟩ : S23), (⟨t222, t223⟩ : S23), (⟨t224, t225⟩ : S23)⟩ : S25) [.int .i64 t219, .int .i64 t220, .int .i64 t221, .int .i64 t222, .int .i64 t223, .int .i64 t224, .int .i64 t225] (fun _ => True) (fun _ => False) rfl rfl ?aP (fun _ hk => hk.elim) ?aF ?aO ?aB ?aS ?aL ?_; (case aP => exact k25_mkM _ _ _ (⟨t219, (⟨t220, t221⟩ : S23), (⟨t222, t223⟩ : S23), (⟨t224, t225⟩ : S23)⟩ : S25)); (case aB => exact (by repeat (first | (with_reducible first | exact HB.out | apply below_alloc | apply pw_below_drewN | apply below_drew1) | exact HB.out))); (case aF => exact (fun _ _ => trivial)); (case aO => exact (by (with_reducible repeat (first | apply Kd.R_alloc | apply Kd.R_drewN | apply Kd.R_drew)); exact HO_12.out)); (case aS => exact (below_size (by repeat (first | (with_reducible first | exact HB.out | apply below_alloc | apply pw_below_drewN | apply below_drew1) | exact HB.out)))); (case aL => have := LMc24.out; omega); intro v227 w27 ho hb hg hat; rw [← Ny226.out] at ho; have n0_ := Aside0.mk (hb); have n1_ := Aside0.mk (ho); clear HB; clear HO_12; have HB := n0_; have HO228 := n1_; clear n0_ n1_; clear ho hb hg hat))
                go_roundg k4
                case measure => have := HJ4.out; have := HJ9.out; have := HK3.out; have := HK4.out; omega
                case rel => exact ⟨(y226), (wrap64 (x13_4 + 1)), (by first | rfl | (simp; done) | (simp [*]; done)), H', ⟨by have := HJ4.out; have := HJ9.out; have := HK3.out; have := HK4.out; omega⟩, ⟨by (with_reducible repeat (first | apply Kd.R_alloc | apply Kd.R_drewN | apply Kd.R_drew)); exact HO228.out⟩, ⟨by repeat (first | (with_reducible first | exact HB.out | apply below_alloc | apply pw_below_drewN | apply below_drew1) | exact HB.out)⟩⟩
               ·rw [if_neg c24] at H
                exact absurd H (by simp)
             ·rw [if_neg c19] at H
              have c19b0 : decide (0 < x13_4) = false := decide_eq_false c19
              clear c19
              replace H := Option.bind_eq_some_iff.mp H
              obtain ⟨t229, A280, H⟩ := H
              replace H : (if t229 = 0 then (none) else ((wageofficeref27_bit.f (Int.tmod (wrap64 (Int.tdiv a0 t229)) 2) x10_3 a3 x13_4).bind fun bt230 => (if x12_4.length < 2513169434916 then (wageofficeref27_Prove.l1 k4 a0 a2 a3 x10_3 (x12_4 ++ [(⟨bt230.1, (⟨bt230.2.1, bt230.2.2.1⟩ : S23), (⟨bt230.2.2.2.1, bt230.2.2.2.2.1⟩ : S23), (⟨bt230.2.2.2.2.2.1, bt230.2.2.2.2.2.2⟩ : S23)⟩ : S25)]) (wrap64 (x13_4 + 1))) else (none)))) = some (r1, r2) := H
              have A28 := Aside0.mk A280
              clear A280
              by_cases c29 : t229 = 0
              ·rw [if_pos c29] at H
               exact absurd H (by simp)
              ·rw [if_neg c29] at H
               have c29b0 : (t229 == 0) = false := beq_eq_false_iff_ne.mpr c29
               have c29b1 : (t229 != 0) = true := bne_iff_ne.mpr c29
               replace H := Option.bind_eq_some_iff.mp H
               obtain ⟨⟨t230, t231, t232, t233, t234, t235, t236⟩, A300, H⟩ := H
               replace H : (if x12_4.length < 2513169434916 then (wageofficeref27_Prove.l1 k4 a0 a2 a3 x10_3 (x12_4 ++ [(⟨t230, (⟨t231, t232⟩ : S23), (⟨t233, t234⟩ : S23), (⟨t235, t236⟩ : S23)⟩ : S25)]) (wrap64 (x13_4 + 1))) else (none)) = some (r1, r2) := H
               have A30 := Aside0.mk A300
               clear A300
               by_cases c31 : x12_4.length < 2513169434916
               ·rw [if_pos c31] at H
                have LMc31 := Aside0.mk c31
                clear c31
                obtain ⟨y237, hy237⟩ : ∃ y_ : List (S25), y_ = (x12_4 ++ [(⟨t230, (⟨t231, t232⟩ : S23), (⟨t233, t234⟩ : S23), (⟨t235, t236⟩ : S23)⟩ : S25)]) := ⟨_, rfl⟩
                replace H : (wageofficeref27_Prove.l1 k4 a0 a2 a3 x10_3 y237 (wrap64 (x13_4 + 1))) = some (r1, r2) := by first | (rw [hy237]; with_reducible exact H) | (have H2_ := (Option.bind_some _ _).symm.trans H; rw [hy237]; with_reducible exact H2_) | (have H2_ := (Option.bind_some _ _).symm.trans H; with_reducible exact H2_) | with_reducible exact H | (rw [hy237]; exact H) | exact H
                have Ny237 := Aside0.mk hy237
                clear hy237
                have H' := Aside0.mk H
                clear H
                go_wp2_with (first | ((with_reducible refine gate_callee (f := 27) rfl ?_); refine goesL_ (some 65) rfl rfl Tryd.func27 (by kernel_rfl) rfl #[.int .i64 x13_4] rfl (by (try simp only [List.map_toArray, List.map_cons, List.map_nil]); first | done | rfl | (simp only [List.length_drop, List.length_take]; rfl)) ?_; (with_reducible refine (wageofficeref27_power2.calls k4 x13_4 t229 _ A28.out).mono ?_); rintro e w' ⟨rfl, ⟨nd, rfl⟩⟩; refine ⟨_, rfl, ?_⟩) | ((with_reducible refine gate_callee (f := 29) rfl ?_); refine goesL_ (some 71) rfl rfl Tryd.func29 (by kernel_rfl) rfl #[.int .i64 (Int.tmod (wrap64 (Int.tdiv a0 t229)) 2), .int .i64 x10_3, .string a3, .int .i64 x13_4] rfl (by (try simp only [List.map_toArray, List.map_cons, List.map_nil]); first | done | rfl | (simp only [List.length_drop, List.length_take]; rfl)) ?_; (with_reducible refine (wageofficeref27_bit.calls (Int.tmod (wrap64 (Int.tdiv a0 t229)) 2) x10_3 a3 x13_4 t230 t231 t232 t233 t234 t235 t236 _ A30.out).mono ?_); rintro e w32 ⟨rfl, hb⟩; refine ⟨_, rfl, ?_⟩; have n0_ := Aside0.mk (Kd.R_below (by (with_reducible repeat (first | apply Kd.R_alloc | apply Kd.R_drewN | apply Kd.R_drew)); exact HO_12.out) hb); have n1_ := Aside0.mk (below_step (by repeat (first | (with_reducible first | exact HB.out | apply below_alloc | apply pw_below_drewN | apply below_drew1) | exact HB.out)) hb); clear HO_12; clear HB; have HO_12 := n0_; have HB := n1_; clear n0_ n1_; (try clear hb); (try clear hb2); (try clear hk); (try clear hi)) | ((with_reducible refine gate_builtin (b := .append) (xs := #[.tmp 62, .tmp 72]) rfl ?_); at_builtin; refine Kd.R_append k25 (w0 := w) w.heap.size rfl (.tmp 62) (.tmp 72) 22 25 (.agg #[(.int .i64 0), (.int .i64 0), (.int .i64 0), (.int .i64 0), (.int .i64 0), (.int .i64 0), (.int .i64 0)]) 56 rfl Tryd.underlying22 info25 rfl (by decide) (by omega) u12 x12_4 (⟨t230, (⟨t231, t232⟩ : S23), (⟨t233, t234⟩ : S23), (⟨t235, t236⟩ : S23)⟩ : S25) [.int .i64 t230, .int .i64 t231, .int .i64 t232, .int .i64 t233, .int .i64 t234, .int .i64 t235, .int .i64 t236] (fun _ => True) (fun _ => False) rfl rfl ?aP (fun _ hk => hk.elim) ?aF ?aO ?aB ?aS ?aL ?_; (case aP => exact k25_mkM _ _ _ (⟨t230, (⟨t231, t232⟩ : S23), (⟨t233, t234⟩ : S23), (⟨t235, t236⟩ : S23)⟩ : S25)); (case aB => exact (by repeat (first | (with_reducible first | exact HB.out | apply below_alloc | apply pw_below_drewN | apply below_drew1) | exact HB.out))); (case aF => exact (fun _ _ => trivial)); (case aO => exact (by (with_reducible repeat (first | apply Kd.R_alloc | apply Kd.R_drewN | apply Kd.R_drew)); exact HO_12.out)); (case aS => exact (below_size (by repeat (first | (with_reducible first | exact HB.out | apply below_alloc | apply pw_below_drewN | apply below_drew1) | exact HB.out)))); (case aL => have := LMc31.out; omega); intro v238 w33 ho hb hg hat; rw [← Ny237.out] at ho; have n0_ := Aside0.mk (hb); have n1_ := Aside0.mk (ho); clear HB; clear HO_12; have HB := n0_; have HO239 := n1_; clear n0_ n1_; clear ho hb hg hat))
                go_roundg k4
                case measure => have := HJ4.out; have := HJ9.out; have := HK3.out; have := HK4.out; omega
                case rel => exact ⟨(y237), (wrap64 (x13_4 + 1)), (by first | rfl | (simp; done) | (simp [*]; done)), H', ⟨by have := HJ4.out; have := HJ9.out; have := HK3.out; have := HK4.out; omega⟩, ⟨by (with_reducible repeat (first | apply Kd.R_alloc | apply Kd.R_drewN | apply Kd.R_drew)); exact HO239.out⟩, ⟨by repeat (first | (with_reducible first | exact HB.out | apply below_alloc | apply pw_below_drewN | apply below_drew1) | exact HB.out)⟩⟩
               ·rw [if_neg c31] at H
                exact absurd H (by simp)
            ·rw [if_neg c18] at H
             have c18b0 : decide (x13_4 < a2) = false := decide_eq_false c18
             clear c18
             simp only [Option.some.injEq, Prod.mk.injEq] at H
             obtain ⟨rfl, rfl⟩ := H
             go_wp2
             go_ret2
             exact ⟨_, by first | rfl | (simp [errW_none, errW_some] <;> rfl) | (simp [*, errW_none, errW_some] <;> rfl), by (with_reducible repeat (first | apply Kd.R_alloc | apply Kd.R_drewN | apply Kd.R_drew)); exact HO_12.out, by repeat (first | (with_reducible first | exact HB.out | apply below_alloc | apply pw_below_drewN | apply below_drew1) | exact HB.out)⟩

end Go.Proofs.YtnlgnmlobklobaaDoor.PAll
