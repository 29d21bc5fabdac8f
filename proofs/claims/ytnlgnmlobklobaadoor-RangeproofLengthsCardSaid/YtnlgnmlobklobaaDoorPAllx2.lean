-- Written by myprint.py over the kit's print.py (a printed text of this session's own make).
import Derived.Test.YtnlgnmlobklobaaDoorPAllx0
import Derived.Test.YtnlgnmlobklobaaDoorPAllx1
-- HALF the printed indentation
namespace Go.Proofs.YtnlgnmlobklobaaDoor.PAll
open Go.Proofs.YtnlgnmlobklobaaDoor.Stub Go.Proofs.YtnlgnmlobklobaaDoor.Com Go.Proofs.YtnlgnmlobklobaaDoor.Hash
open Go.RowKit Go.Proofs.YtnlgnmlobklobaaDoorW.PrintWords Go.Proofs.YtnlgnmlobklobaaDoorW.PrintLast Go.Proofs.YtnlgnmlobklobaaDoorW.PrintMore
attribute [local go_sem] max2_int min2_int max_two min_two max_three min_three max_four min_four   -- for this text's walks alone
set_option linter.unusedVariables false
set_option linter.unusedSimpArgs false

/-! ### rangeproof_Prove: function 10 -/
mutual
def rangeproof_Prove.j0 : Nat → Int → Int → Int → ByteArray → Bool → Option ((List (S25)) × Int)
 | 0, _, _, _, _, _ => none
 | k + 1, x0, x1, x2, x3, x25 => if x25 = true then (some (([] : List (S25)), 1)) else (if x0 < 0 then (rangeproof_Prove.j1 k x0 x1 x2 x3 true) else (if 0 ≤ x2 then (rangeproof_Prove.j1 k x0 x1 x2 x3 ((shr .i64 x0 x2) != 0)) else (none)))
def rangeproof_Prove.j1 : Nat → Int → Int → Int → ByteArray → Bool → Option ((List (S25)) × Int)
 | 0, _, _, _, _, _ => none
 | k + 1, x0, x1, x2, x3, x33 => if x33 = true then (some (([] : List (S25)), 3)) else (if 0 ≤ x2 then (if (x2 : Int).toNat ≤ 35184372088832 then ((some (List.replicate (x2 : Int).toNat 0 : List Int)).bind fun y123 => (if 0 < (y123.length : Int) then (rangeproof_Prove.l0 k x0 x2 x3 (y123.set (0 : Int).toNat x1) 1) else (none))) else (none)) else (none))
def rangeproof_Prove.l0 : Nat → Int → Int → ByteArray → List Int → Int → Option ((List (S25)) × Int)
 | 0, _, _, _, _, _ => none
 | k + 1, x0, x2, x3, x10, x11 => if x11 < x2 then ((rangeproof_hash.f x3 (([x11, 0] : List Int))).bind fun t130 => (if 0 ≤ x11 then (if x11 < (x10.length : Int) then ((some (x10.set (x11 : Int).toNat t130 : List Int)).bind fun y131 => (if 0 < (x10.length : Int) then (rangeproof_Prove.l0 k x0 x2 x3 (y131.set (0 : Int).toNat (Int.tmod (wrap64 ((wrap64 ((rd y131 0) - (Int.tmod (shl .i64 (rd y131 x11) x11) 1073741789))) + 1073741789)) 1073741789)) (wrap64 (x11 + 1))) else (none))) else (none)) else (none))) else (rangeproof_Prove.l1 k x0 x3 ([] : List (S25)) x10 (x10.length : Int) 0)
def rangeproof_Prove.l1 : Nat → Int → ByteArray → List (S25) → List Int → Int → Int → Option ((List (S25)) × Int)
 | 0, _, _, _, _, _, _ => none
 | k + 1, x0, x3, x12, x66, x67, x68 => if x68 < x67 then (if 0 ≤ x68 then (if x68 < (x66.length : Int) then ((rangeproof_proveBit.f (Go.bits .and .i64 (shr .i64 x0 x68) 1) (rd x66 x68) x3 x68).bind fun bt136 => (if x12.length < 2513169434916 then (rangeproof_Prove.l1 k x0 x3 (x12 ++ [(⟨bt136.1, (⟨bt136.2.1, bt136.2.2.1⟩ : S23), (⟨bt136.2.2.2.1, bt136.2.2.2.2.1⟩ : S23), (⟨bt136.2.2.2.2.2.1, bt136.2.2.2.2.2.2⟩ : S23)⟩ : S25)]) x66 x67 (wrap64 (x68 + 1))) else (none))) else (none)) else (none)) else (some (x12, 0))
end
def rangeproof_Prove.f (k : Nat) (a0 : Int) (a1 : Int) (a2 : Int) (a3 : ByteArray) : Option ((List (S25)) × Int) := if a2 < 1 then (rangeproof_Prove.j0 k a0 a1 a2 a3 true) else (if a2 > 28 then (rangeproof_Prove.j0 k a0 a1 a2 a3 true) else ((rangeproof_isNumber.f a1).bind fun t122 => (rangeproof_Prove.j0 k a0 a1 a2 a3 (!t122))))
theorem rangeproof_Prove.mono_l : ∀ k, (∀ y0 y1 y2 y3 y4, LeO (rangeproof_Prove.j0 k y0 y1 y2 y3 y4) (rangeproof_Prove.j0 (k + 1) y0 y1 y2 y3 y4)) ∧ (∀ y0 y1 y2 y3 y4, LeO (rangeproof_Prove.j1 k y0 y1 y2 y3 y4) (rangeproof_Prove.j1 (k + 1) y0 y1 y2 y3 y4)) ∧ (∀ y0 y1 y2 y3 y4, LeO (rangeproof_Prove.l0 k y0 y1 y2 y3 y4) (rangeproof_Prove.l0 (k + 1) y0 y1 y2 y3 y4)) ∧ (∀ y0 y1 y2 y3 y4 y5, LeO (rangeproof_Prove.l1 k y0 y1 y2 y3 y4 y5) (rangeproof_Prove.l1 (k + 1) y0 y1 y2 y3 y4 y5))
 | 0 => ⟨fun _ _ _ _ _ r h => by simp [rangeproof_Prove.j0] at h, fun _ _ _ _ _ r h => by simp [rangeproof_Prove.j1] at h, fun _ _ _ _ _ r h => by simp [rangeproof_Prove.l0] at h, fun _ _ _ _ _ _ r h => by simp [rangeproof_Prove.l1] at h⟩
 | k + 1 => by
  obtain ⟨ih0, ih1, ih2, ih3⟩ := rangeproof_Prove.mono_l k
  refine ⟨?_, ?_, ?_, ?_⟩
  ·intro y0 y1 y2 y3 y4
   unfold rangeproof_Prove.j0
   repeat' first
   | (with_reducible exact ih0 _ _ _ _ _)
   | (with_reducible exact ih1 _ _ _ _ _)
   | (with_reducible exact ih2 _ _ _ _ _)
   | (with_reducible exact ih3 _ _ _ _ _ _)
   | (with_reducible exact LeO.refl _)
   | (with_reducible exact LeO.none _)
   | (with_reducible refine LeO.ite ?_ ?_)
   | (with_reducible refine LeO.bind ?_ (fun _ => ?_))
   | exact ih0 _ _ _ _ _
   | exact ih1 _ _ _ _ _
   | exact ih2 _ _ _ _ _
   | exact ih3 _ _ _ _ _ _
   | exact LeO.none _
   | refine LeO.ite ?_ ?_
   | refine LeO.bind ?_ (fun _ => ?_)
  ·intro y0 y1 y2 y3 y4
   unfold rangeproof_Prove.j1
   repeat' first
   | (with_reducible exact ih0 _ _ _ _ _)
   | (with_reducible exact ih1 _ _ _ _ _)
   | (with_reducible exact ih2 _ _ _ _ _)
   | (with_reducible exact ih3 _ _ _ _ _ _)
   | (with_reducible exact LeO.refl _)
   | (with_reducible exact LeO.none _)
   | (with_reducible refine LeO.ite ?_ ?_)
   | (with_reducible refine LeO.bind ?_ (fun _ => ?_))
   | exact ih0 _ _ _ _ _
   | exact ih1 _ _ _ _ _
   | exact ih2 _ _ _ _ _
   | exact ih3 _ _ _ _ _ _
   | exact LeO.none _
   | refine LeO.ite ?_ ?_
   | refine LeO.bind ?_ (fun _ => ?_)
  ·intro y0 y1 y2 y3 y4
   unfold rangeproof_Prove.l0
   repeat' first
   | (with_reducible exact ih0 _ _ _ _ _)
   | (with_reducible exact ih1 _ _ _ _ _)
   | (with_reducible exact ih2 _ _ _ _ _)
   | (with_reducible exact ih3 _ _ _ _ _ _)
   | (with_reducible exact LeO.refl _)
   | (with_reducible exact LeO.none _)
   | (with_reducible refine LeO.ite ?_ ?_)
   | (with_reducible refine LeO.bind ?_ (fun _ => ?_))
   | exact ih0 _ _ _ _ _
   | exact ih1 _ _ _ _ _
   | exact ih2 _ _ _ _ _
   | exact ih3 _ _ _ _ _ _
   | exact LeO.none _
   | refine LeO.ite ?_ ?_
   | refine LeO.bind ?_ (fun _ => ?_)
  ·intro y0 y1 y2 y3 y4 y5
   unfold rangeproof_Prove.l1
   repeat' first
   | (with_reducible exact ih0 _ _ _ _ _)
   | (with_reducible exact ih1 _ _ _ _ _)
   | (with_reducible exact ih2 _ _ _ _ _)
   | (with_reducible exact ih3 _ _ _ _ _ _)
   | (with_reducible exact LeO.refl _)
   | (with_reducible exact LeO.none _)
   | (with_reducible refine LeO.ite ?_ ?_)
   | (with_reducible refine LeO.bind ?_ (fun _ => ?_))
   | exact ih0 _ _ _ _ _
   | exact ih1 _ _ _ _ _
   | exact ih2 _ _ _ _ _
   | exact ih3 _ _ _ _ _ _
   | exact LeO.none _
   | refine LeO.ite ?_ ?_
   | refine LeO.bind ?_ (fun _ => ?_)
theorem rangeproof_Prove.mono : ∀ a0 a1 a2 a3 k, LeO (rangeproof_Prove.f k a0 a1 a2 a3) (rangeproof_Prove.f (k + 1) a0 a1 a2 a3) := by
 intro a0 a1 a2 a3 k
 obtain ⟨ih0, ih1, ih2, ih3⟩ := rangeproof_Prove.mono_l k
 unfold rangeproof_Prove.f
 repeat' first
   | (with_reducible exact ih0 _ _ _ _ _)
   | (with_reducible exact ih1 _ _ _ _ _)
   | (with_reducible exact ih2 _ _ _ _ _)
   | (with_reducible exact ih3 _ _ _ _ _ _)
   | (with_reducible exact LeO.refl _)
   | (with_reducible exact LeO.none _)
   | (with_reducible refine LeO.ite ?_ ?_)
   | (with_reducible refine LeO.bind ?_ (fun _ => ?_))
   | exact ih0 _ _ _ _ _
   | exact ih1 _ _ _ _ _
   | exact ih2 _ _ _ _ _
   | exact ih3 _ _ _ _ _ _
   | exact LeO.none _
   | refine LeO.ite ?_ ?_
   | refine LeO.bind ?_ (fun _ => ?_)
def rangeproof_Prove.T11 : Bool × List (List Nat × List Nat) := (true, [([], []), ([], []), ([1], [1]), ([2], [2]), ([], []), ([], []), ([4, 5], [4, 5]), ([6], [6]), ([], []), ([7, 8], [7, 8]), ([9], [9]), ([3, 10], [3, 10]), ([11], [11]), ([12], [12]), ([0, 0, 1, 2, 3, 4, 5, 6, 7, 8, 9, 10, 11, 12, 13], [0]), ([14, 13, 0, 1, 2, 3, 4, 5, 6, 7, 8, 9, 10, 11, 12, 13], [13, 14])])
def rangeproof_Prove.B11 : List Nat := [0, 0, 2, 6, 0, 0, 48, 112, 0, 496, 1008, 2046, 4094, 8190, 16383, 32767]
theorem rangeproof_Prove.tab11 : rtab .any (opsOf Tryd.f10 11) = rangeproof_Prove.T11 := by kernel_rfl
theorem rangeproof_Prove.bits11 : waitsOk rangeproof_Prove.T11.2 rangeproof_Prove.B11 = true := by kernel_rfl
set_option maxHeartbeats 8000000 in
set_option maxRecDepth 100000 in
theorem rangeproof_Prove.calls (k : Nat) (a0 : Int) (a1 : Int) (a2 : Int) (a3 : ByteArray) (r1 : List (S25)) (r2 : Int) (w : World) (h : rangeproof_Prove.f k a0 a1 a2 a3 = some (r1, r2)) (hTGen0 : TabGen w) (hTTen0 : TabTen w) :
  Calls Tryd.prog 10 #[.int .i64 a0, .int .i64 a1, .int .i64 a2, .string a3] w fun e w' => ∃ v0_ : Value, e = .returned (.tuple #[v0_, .int .i64 r2]) ∧ Kd.R k25 25 w' w.heap.size (fun _ => True) v0_ r1 ∧ Below w.heap.size w w' := by
 have hTGen := Aside0.mk hTGen0
 clear hTGen0
 have hTTen := Aside0.mk hTTen0
 clear hTTen0
 have HB := Aside0.mk (Below.refl w.heap.size w)
 have H : (if a2 < 1 then (rangeproof_Prove.j0 k a0 a1 a2 a3 true) else (if a2 > 28 then (rangeproof_Prove.j0 k a0 a1 a2 a3 true) else ((rangeproof_isNumber.f a1).bind fun t122 => (rangeproof_Prove.j0 k a0 a1 a2 a3 (!t122))))) = some (r1, r2) := h
 clear h
 have HC5 := Aside0.mk H
 clear H
 go_enter Tryd.func10, Tryd.ntmps10
 go_upto_region 1 with (fail)
 go_cut [25] (fun v25 wc => ∃ (kq : Nat) (x25_4 : Bool), v25 = .bool x25_4 ∧ Aside0 (rangeproof_Prove.j0 kq a0 a1 a2 a3 x25_4 = some (r1, r2)) ∧ Aside0 (kq ≤ k) ∧ Aside0 (Below w.heap.size w wc))
 case first =>
  have H := HC5.out
  clear HC5
  by_cases c6 : a2 < 1
  ·rw [if_pos c6] at H
   have c6b0 : decide (a2 < 1) = true := decide_eq_true c6
   clear c6
   (first | rw [c6b0] | (simp only [i64_w, i32_w]; rw [c6b0]) | skip)
   have H' := Aside0.mk H
   clear H
   go_wp2
   go_meet
   case rel => exact ⟨_, (true), (by first | rfl | (simp; done) | (simp [*]; done)), H', ⟨by first | omega | exact Nat.le_refl _⟩, ⟨by repeat (first | (with_reducible first | exact HB.out | apply below_alloc | apply pw_below_drewN | apply below_drew1) | exact HB.out)⟩⟩
  ·rw [if_neg c6] at H
   have c6b0 : decide (a2 < 1) = false := decide_eq_false c6
   clear c6
   (first | rw [c6b0] | (simp only [i64_w, i32_w]; rw [c6b0]) | skip)
   by_cases c7 : a2 > 28
   ·rw [if_pos c7] at H
    have c7b0 : decide (28 < a2) = true := decide_eq_true c7
    clear c7
    have H' := Aside0.mk H
    clear H
    go_wp2
    go_meet
    case rel => exact ⟨_, (true), (by first | rfl | (simp; done) | (simp [*]; done)), H', ⟨by first | omega | exact Nat.le_refl _⟩, ⟨by repeat (first | (with_reducible first | exact HB.out | apply below_alloc | apply pw_below_drewN | apply below_drew1) | exact HB.out)⟩⟩
   ·rw [if_neg c7] at H
    have c7b0 : decide (28 < a2) = false := decide_eq_false c7
    clear c7
    replace H := Option.bind_eq_some_iff.mp H
    obtain ⟨t122, A80, H⟩ := H
    replace H : (rangeproof_Prove.j0 k a0 a1 a2 a3 (!t122)) = some (r1, r2) := H
    have A8 := Aside0.mk A80
    clear A80
    have H' := Aside0.mk H
    clear H
    go_wp2_with (first | (go_at_call 23; (with_reducible refine (rangeproof_isNumber.calls a1 t122 _ A8.out).mono ?_); rintro e w' ⟨rfl, ⟨nd, rfl⟩⟩))
    go_meet
    case rel => exact ⟨_, (!t122), (by first | rfl | (simp; done) | (simp [*]; done)), H', ⟨by first | omega | exact Nat.le_refl _⟩, ⟨by repeat (first | (with_reducible first | exact HB.out | apply below_alloc | apply pw_below_drewN | apply below_drew1) | exact HB.out)⟩⟩
 case rest =>
  clear HC5
  try clear c1
  try clear p2
  try clear c6
  try clear c6b0
  try clear c7
  try clear c7b0
  obtain ⟨kq, x25_4, rfl, HA, HJ4, HB⟩ := hcut
  cases kq with
  | zero => exact absurd HA.out (by simp [rangeproof_Prove.j0])
  | succ kj4 =>
   have H := HA.out
   clear HA
   simp only [rangeproof_Prove.j0] at H
   by_cases c9 : x25_4 = true
   ·subst c9
    have H1 : (some (([] : List (S25)), 1)) = some (r1, r2) := by rw [if_pos rfl] at H; exact H
    clear H
    have H := H1
    clear H1
    simp only [Option.some.injEq, Prod.mk.injEq] at H
    obtain ⟨rfl, rfl⟩ := H
    go_wp2
    go_ret2
    exact ⟨_, by first | rfl | (simp [errW_none, errW_some] <;> rfl) | (simp [*, errW_none, errW_some] <;> rfl), by first | exact Kd.R_nil _ _ _ _ _ | exact Kd.N_nil _ _ _ _ _ | exact Kd.V_nil _ _ _ _ _ | exact Kd.Q_nil _ _ _ _ _ | exact Kd.S_nil _ _ _ _ _, by repeat (first | (with_reducible first | exact HB.out | apply below_alloc | apply pw_below_drewN | apply below_drew1) | exact HB.out)⟩
   ·replace c9 := Bool.eq_false_iff.mpr c9
    subst c9
    have H1 : (if a0 < 0 then (rangeproof_Prove.j1 kj4 a0 a1 a2 a3 true) else (if 0 ≤ a2 then (rangeproof_Prove.j1 kj4 a0 a1 a2 a3 ((shr .i64 a0 a2) != 0)) else (none))) = some (r1, r2) := by rw [if_neg (show ¬ (false = true) by decide)] at H; exact H
    clear H
    have H := H1
    clear H1
    have HC10 := Aside0.mk H
    clear H
    go_upto_region 3 with (fail)
    go_cut [33] (fun v33 wc => ∃ (kq : Nat) (x33_9 : Bool), v33 = .bool x33_9 ∧ Aside0 (rangeproof_Prove.j1 kq a0 a1 a2 a3 x33_9 = some (r1, r2)) ∧ Aside0 (kq ≤ kj4) ∧ Aside0 (Below w.heap.size w wc))
    case first =>
     have H := HC10.out
     clear HC10
     by_cases c11 : a0 < 0
     ·rw [if_pos c11] at H
      have c11b0 : decide (a0 < 0) = true := decide_eq_true c11
      clear c11
      (first | rw [c11b0] | (simp only [i64_w, i32_w]; rw [c11b0]) | skip)
      have H' := Aside0.mk H
      clear H
      go_wp2
      go_meet
      case rel => exact ⟨_, (true), (by first | rfl | (simp; done) | (simp [*]; done)), H', ⟨by have := HJ4.out; first | omega | exact Nat.le_refl _⟩, ⟨by repeat (first | (with_reducible first | exact HB.out | apply below_alloc | apply pw_below_drewN | apply below_drew1) | exact HB.out)⟩⟩
     ·rw [if_neg c11] at H
      have c11b0 : decide (a0 < 0) = false := decide_eq_false c11
      clear c11
      (first | rw [c11b0] | (simp only [i64_w, i32_w]; rw [c11b0]) | skip)
      by_cases c12 : 0 ≤ a2
      ·rw [if_pos c12] at H
       have c12b0 := eq_true c12
       have c12b1 : decide (0 ≤ a2) = true := decide_eq_true c12
       clear c12
       obtain ⟨ji13, hji13⟩ : ∃ j_ : Int, (shr .i64 a0 a2) = j_ := ⟨_, rfl⟩
       replace H : (rangeproof_Prove.j1 kj4 a0 a1 a2 a3 ((ji13) != 0)) = some (r1, r2) := by first | (rw [hji13] at H; exact H) | (simp only [hji13] at H ⊢; exact H)
       have hji13_ : (a0 / 2 ^ min a2.toNat 64) = ji13 := hji13
       have hji13z : a2 ≤ 64 → (a0 / 2 ^ a2.toNat) = ji13 := shr_small hji13
       have H' := Aside0.mk H
       clear H
       go_wp2
       go_meet
       case rel => exact ⟨_, (((ji13) != 0)), (by first | rfl | (simp; done) | (simp only [← hji13] <;> (first | rfl | simp)) | (simp [*]; done)), H', ⟨by have := HJ4.out; first | omega | exact Nat.le_refl _⟩, ⟨by repeat (first | (with_reducible first | exact HB.out | apply below_alloc | apply pw_below_drewN | apply below_drew1) | exact HB.out)⟩⟩
      ·rw [if_neg c12] at H
       exact absurd H (by simp)
    case rest =>
     clear HC10
     try clear c1
     try clear p2
     try clear c6
     try clear c6b0
     try clear c7
     try clear c7b0
     try clear c9
     try clear c10
     try clear c11
     try clear c11b0
     try clear c12
     try clear c12b0
     try clear c12b1
     try clear p2
     obtain ⟨kq, x33_9, rfl, HA, HJ9, HB⟩ := hcut
     cases kq with
     | zero => exact absurd HA.out (by simp [rangeproof_Prove.j1])
     | succ kj9 =>
      have H := HA.out
      clear HA
      simp only [rangeproof_Prove.j1] at H
      by_cases c14 : x33_9 = true
      ·subst c14
       have H1 : (some (([] : List (S25)), 3)) = some (r1, r2) := by rw [if_pos rfl] at H; exact H
       clear H
       have H := H1
       clear H1
       simp only [Option.some.injEq, Prod.mk.injEq] at H
       obtain ⟨rfl, rfl⟩ := H
       go_wp2
       go_ret2
       exact ⟨_, by first | rfl | (simp [errW_none, errW_some] <;> rfl) | (simp [*, errW_none, errW_some] <;> rfl), by first | exact Kd.R_nil _ _ _ _ _ | exact Kd.N_nil _ _ _ _ _ | exact Kd.V_nil _ _ _ _ _ | exact Kd.Q_nil _ _ _ _ _ | exact Kd.S_nil _ _ _ _ _, by repeat (first | (with_reducible first | exact HB.out | apply below_alloc | apply pw_below_drewN | apply below_drew1) | exact HB.out)⟩
      ·replace c14 := Bool.eq_false_iff.mpr c14
       subst c14
       have H1 : (if 0 ≤ a2 then (if (a2 : Int).toNat ≤ 35184372088832 then ((some (List.replicate (a2 : Int).toNat 0 : List Int)).bind fun y123 => (if 0 < (y123.length : Int) then (rangeproof_Prove.l0 kj9 a0 a2 a3 (y123.set (0 : Int).toNat a1) 1) else (none))) else (none)) else (none)) = some (r1, r2) := by rw [if_neg (show ¬ (false = true) by decide)] at H; exact H
       clear H
       have H := H1
       clear H1
       by_cases c15 : 0 ≤ a2
       ·rw [if_pos c15] at H
        have c15b0 := eq_true c15
        have c15b1 : decide (0 ≤ a2) = true := decide_eq_true c15
        clear c15
        by_cases c16 : (a2 : Int).toNat ≤ 35184372088832
        ·rw [if_pos c16] at H
         have c16b0 := eq_true c16
         have c16b1 : decide ((a2 : Int).toNat ≤ 35184372088832) = true := decide_eq_true c16
         clear c16
         obtain ⟨y123, hy123⟩ : ∃ y_ : List Int, y_ = (List.replicate (a2 : Int).toNat 0) := ⟨_, rfl⟩
         replace H : (if 0 < (y123.length : Int) then (rangeproof_Prove.l0 kj9 a0 a2 a3 (y123.set (0 : Int).toNat a1) 1) else (none)) = some (r1, r2) := by first | (rw [hy123]; with_reducible exact H) | (have H2_ := (Option.bind_some _ _).symm.trans H; rw [hy123]; with_reducible exact H2_) | (have H2_ := (Option.bind_some _ _).symm.trans H; with_reducible exact H2_) | with_reducible exact H | (rw [hy123]; exact H) | exact H
         have Ny123 := Aside0.mk hy123
         clear hy123
         by_cases c17 : 0 < (y123.length : Int)
         ·rw [if_pos c17] at H
          have c17b0 : decide (0 < (y123.length : Int)) = true := decide_eq_true c17
          have c17b1 : decide (0 < y123.length) = true := decide_eq_true (by omega)
          clear c17
          obtain ⟨y126, hy126⟩ : ∃ y_ : List Int, y_ = (y123.set (0 : Int).toNat a1) := ⟨_, rfl⟩
          replace H : (rangeproof_Prove.l0 kj9 a0 a2 a3 y126 1) = some (r1, r2) := by first | (rw [hy126]; with_reducible exact H) | (have H2_ := (Option.bind_some _ _).symm.trans H; rw [hy126]; with_reducible exact H2_) | (have H2_ := (Option.bind_some _ _).symm.trans H; with_reducible exact H2_) | with_reducible exact H | (rw [hy126]; exact H) | exact H
          have Ny126 := Aside0.mk hy126
          clear hy126
          have H' := Aside0.mk H
          clear H
          go_wp2_with (first | ((with_reducible refine gate_dst (N := 35) rfl ?_); refine Kd.R_make (Kd.int .i64) _ 3 rfl (N := 35) rfl 51 _ _ rfl a2 rfl rfl Tryd.underlying51 (.int .i64 0) 8 info3 rfl (by decide) (by omega) 0 (ok := fun _ => True) (okp := fun _ => True) rfl (fun _ hk => hk) trivial (of_decide_eq_true (by first | (with_reducible assumption) | assumption)) (Nat.le_trans (Nat.mul_le_mul_right _ (of_decide_eq_true (by first | (with_reducible assumption) | assumption) : a2.toNat ≤ 35184372088832)) (by omega)) (Below.refl _ _) (Nat.le_refl _) ?_; intro v124 w19 ho20 hb hg_ hnew_; clear hg_ hnew_; (first | rw [← Ny123.out] at ho20 | (simp only [Int.reduceToNat] at ho20; rw [← Ny123.out] at ho20)); have n0_ := Aside0.mk (Kd.R_lower ho20 (below_size (by repeat (first | (with_reducible first | exact HB.out | apply below_alloc | apply pw_below_drewN | apply below_drew1) | exact HB.out)))); have n1_ := Aside0.mk (below_step (by repeat (first | (with_reducible first | exact HB.out | apply below_alloc | apply pw_below_drewN | apply below_drew1) | exact HB.out)) hb); clear HB; have HO125 := n0_; have HB := n1_; clear n0_ n1_; clear hb ho20; have p18 : 0 ≤ (0 : Int) := (by omega); have q18 : (0 : Int) < ((y123.length : Int) : Int) := of_decide_eq_true (by first | (with_reducible assumption) | assumption); have qi18 : (0 < y123.length) = True := eq_true (by omega); obtain ⟨go18, co18, eo18, gb18, gl18, cl18, HG18⟩ := Kd.R_form HO125.out (by omega); (first | cases eo18 | (injection eo18 with ea_ en_ ec_; (first | subst ea_ | (injection ea_ with ea_; subst ea_)); subst ec_; clear en_)); have GB18 := Aside0.mk gb18; have GG18 := Aside0.mk HG18; clear gb18 gl18 HG18; obtain ⟨hx18_0, hf18_0⟩ := Kd.R_celln 0 HO125.out (0 : Int) p18 q18; (try rw [show ((0 : Int)).toNat = 0 from rfl] at hx18_0); (try simp only [Nat.reduceMul, Nat.zero_mul, Nat.zero_add, Nat.reduceAdd] at hx18_0); (try rw [show ((0 : Int)).toNat = 0 from rfl] at hf18_0); (try simp only [Nat.reduceMul, Nat.zero_mul, Nat.zero_add, Nat.reduceAdd] at hf18_0); replace p18 := eq_true p18; replace q18 := eq_true q18; obtain ⟨hy21_, hz21_⟩ := Kd.R_celln 0 HO125.out (0 : Int) (by omega) (of_decide_eq_true (by first | (with_reducible assumption) | assumption)); (try simp only [Int.reduceToNat, Int.toNat_zero, Int.toNat_ofNat, Nat.reduceMul, Nat.zero_mul, Nat.zero_add] at hy21_ hz21_); (try rw [show ((0 : Int)).toNat = 0 from rfl] at hy21_); (try rw [show ((0 : Int)).toNat = 0 from rfl] at hz21_); have HP21 := Kd.R_putg HO125.out (0 : Int) a1) | ((with_reducible refine gate_store (t := 3) (p := 38) rfl ?_); refine store_event (t := 3) (p := 38) (v := ?vo_w22) (w1 := (w19.setCell ⟨go18, (0 : Int).toNat, none⟩ (.int .i64 a1))) ?hg ?ho ?hn ?hr ?_; (case ho => rfl); (case hg => rfl); (case hn => rfl); (case hr => first | (go_simp; done) | (go_simp; rfl)); intro w22 hw; have hg : w19.grownBy w22 (some go18) := (by rw [hw]; exact HP21.2); have hp_ : Kd.R (Kd.int .i64) 3 w22 w.heap.size (fun _ => True) (.slice (some ⟨go18, 0, none⟩) y123.length co18) y126 := (by rw [hw, Ny126.out]; exact HP21.1); clear HP21; have n0_ := Aside0.mk (hp_); have n1_ := Aside0.mk ((by rw [hw]; exact below_set (HB.out) GB18.out : Below w.heap.size w w22)); clear HO125; clear HB; have HO125 := n0_; have HB := n1_; clear n0_ n1_; clear hg hw hp_))
          go_loopg [11] kj9 (fun kq v11 w' => ∃ (x10_3 : List Int) (x11_3 : Int), v11 = .int .i64 x11_3 ∧ Aside0 (rangeproof_Prove.l0 kq a0 a2 a3 x10_3 x11_3 = some (r1, r2)) ∧ Aside0 (kq ≤ kj9) ∧ Aside0 (Kd.R (Kd.int .i64) 3 w' w.heap.size (fun _ => True) (.slice (some ⟨go18, 0, none⟩) y123.length co18) x10_3) ∧ Aside0 (Below w.heap.size w w'))
          case atStart => exact ⟨(y126), (1), (by first | rfl | (simp; done) | (simp [*]; done)), H', ⟨Nat.le_refl _⟩, ⟨by (with_reducible repeat (first | apply Kd.R_alloc | apply Kd.R_drewN | apply Kd.R_drew)); exact HO125.out⟩, ⟨by repeat (first | (with_reducible first | exact HB.out | apply below_alloc | apply pw_below_drewN | apply below_drew1) | exact HB.out)⟩⟩
          case round =>
           clear H'
           try clear c1
           try clear p1
           try clear q1
           try clear hx1
           try clear qi1
           try clear p2
           try clear c6
           try clear c6b0
           try clear c7
           try clear c7b0
           try clear c9
           try clear c10
           try clear c11
           try clear c11b0
           try clear c12
           try clear c12b0
           try clear c12b1
           try clear c14
           try clear c15
           try clear c15b0
           try clear c15b1
           try clear c16
           try clear c16b0
           try clear c16b1
           try clear c17
           try clear c17b0
           try clear c17b1
           try clear p18
           try clear q18
           try clear hx18
           try clear qi18
           try clear hf18
           try clear hx18_0
           try clear p18
           try clear p2
           try clear q18
           obtain ⟨x10_3, x11_3, rfl, HA, HK3, HO_10, HB⟩ := hrel
           have hl10_3 := (Kd.R_reads' HO_10.out).1
           rw [hl10_3] at HO_10
           (try simp only [hl10_3])
           cases gk with
           | zero => exact absurd HA.out (by simp [rangeproof_Prove.l0])
           | succ k3 =>
            have H := HA.out
            clear HA
            simp only [rangeproof_Prove.l0] at H
            by_cases c23 : x11_3 < a2
            ·rw [if_pos c23] at H
             have c23b0 : decide (x11_3 < a2) = true := decide_eq_true c23
             clear c23
             obtain ⟨y127, hy127⟩ : ∃ y_ : List Int, y_ = (([x11_3, 0] : List Int)) := ⟨_, rfl⟩
             replace H : ((rangeproof_hash.f a3 y127).bind fun t130 => (if 0 ≤ x11_3 then (if x11_3 < (x10_3.length : Int) then ((some (x10_3.set (x11_3 : Int).toNat t130 : List Int)).bind fun y131 => (if 0 < (x10_3.length : Int) then (rangeproof_Prove.l0 k3 a0 a2 a3 (y131.set (0 : Int).toNat (Int.tmod (wrap64 ((wrap64 ((rd y131 0) - (Int.tmod (shl .i64 (rd y131 x11_3) x11_3) 1073741789))) + 1073741789)) 1073741789)) (wrap64 (x11_3 + 1))) else (none))) else (none)) else (none))) = some (r1, r2) := by first | (rw [hy127]; with_reducible exact H) | (have H2_ := (Option.bind_some _ _).symm.trans H; rw [hy127]; with_reducible exact H2_) | (have H2_ := (Option.bind_some _ _).symm.trans H; with_reducible exact H2_) | with_reducible exact H | (rw [hy127]; exact H) | exact H
             have Ny127 := Aside0.mk hy127
             clear hy127
             replace H := Option.bind_eq_some_iff.mp H
             obtain ⟨t130, A240, H⟩ := H
             replace H : (if 0 ≤ x11_3 then (if x11_3 < (x10_3.length : Int) then ((some (x10_3.set (x11_3 : Int).toNat t130 : List Int)).bind fun y131 => (if 0 < (x10_3.length : Int) then (rangeproof_Prove.l0 k3 a0 a2 a3 (y131.set (0 : Int).toNat (Int.tmod (wrap64 ((wrap64 ((rd y131 0) - (Int.tmod (shl .i64 (rd y131 x11_3) x11_3) 1073741789))) + 1073741789)) 1073741789)) (wrap64 (x11_3 + 1))) else (none))) else (none)) else (none)) = some (r1, r2) := H
             have A24 := Aside0.mk A240
             clear A240
             by_cases c25 : 0 ≤ x11_3
             ·rw [if_pos c25] at H
              have c25b0 : decide (0 ≤ x11_3) = true := decide_eq_true c25
              clear c25
              by_cases c26 : x11_3 < (x10_3.length : Int)
              ·rw [if_pos c26] at H
               have c26b0 : decide (x11_3 < (x10_3.length : Int)) = true := decide_eq_true c26
               clear c26
               obtain ⟨y131, hy131⟩ : ∃ y_ : List Int, y_ = (x10_3.set (x11_3 : Int).toNat t130) := ⟨_, rfl⟩
               replace H : (if 0 < (x10_3.length : Int) then (rangeproof_Prove.l0 k3 a0 a2 a3 (y131.set (0 : Int).toNat (Int.tmod (wrap64 ((wrap64 ((rd y131 0) - (Int.tmod (shl .i64 (rd y131 x11_3) x11_3) 1073741789))) + 1073741789)) 1073741789)) (wrap64 (x11_3 + 1))) else (none)) = some (r1, r2) := by first | (rw [hy131]; with_reducible exact H) | (have H2_ := (Option.bind_some _ _).symm.trans H; rw [hy131]; with_reducible exact H2_) | (have H2_ := (Option.bind_some _ _).symm.trans H; with_reducible exact H2_) | with_reducible exact H | (rw [hy131]; exact H) | exact H
               have Ny131 := Aside0.mk hy131
               clear hy131
               by_cases c28 : 0 < (x10_3.length : Int)
               ·rw [if_pos c28] at H
                have c28b0 : decide (0 < (x10_3.length : Int)) = true := decide_eq_true c28
                have c28b1 : decide (0 < x10_3.length) = true := decide_eq_true (by omega)
                clear c28
                have c29b0 := eq_true (of_decide_eq_true (by first | (with_reducible assumption) | assumption) : 0 ≤ x11_3)
                obtain ⟨ji30, hji30⟩ : ∃ j_ : Int, (shl .i64 (rd y131 x11_3) x11_3) = j_ := ⟨_, rfl⟩
                replace H : (rangeproof_Prove.l0 k3 a0 a2 a3 (y131.set (0 : Int).toNat (Int.tmod (wrap64 ((wrap64 ((rd y131 0) - (Int.tmod (ji30) 1073741789))) + 1073741789)) 1073741789)) (wrap64 (x11_3 + 1))) = some (r1, r2) := by first | (rw [hji30] at H; exact H) | (simp only [hji30] at H ⊢; exact H)
                (try rw [hji30] at A24)
                have hji30_ : (IntKind.i64.wrap ((rd y131 x11_3) * 2 ^ min x11_3.toNat 64)) = ji30 := hji30
                have hji30z : x11_3 ≤ 64 → (IntKind.i64.wrap ((rd y131 x11_3) * 2 ^ x11_3.toNat)) = ji30 := shl_small hji30
                have hji30y : (wrap64 ((rd y131 x11_3) * 2 ^ min x11_3.toNat 64)) = ji30 := (i64_w _).symm.trans hji30_
                have hji30x : x11_3 ≤ 64 → (wrap64 ((rd y131 x11_3) * 2 ^ x11_3.toNat)) = ji30 := fun h_ => (i64_w _).symm.trans (hji30z h_)
                obtain ⟨y134, hy134⟩ : ∃ y_ : List Int, y_ = (y131.set (0 : Int).toNat (Int.tmod (wrap64 ((wrap64 ((rd y131 0) - (Int.tmod (ji30) 1073741789))) + 1073741789)) 1073741789)) := ⟨_, rfl⟩
                replace H : (rangeproof_Prove.l0 k3 a0 a2 a3 y134 (wrap64 (x11_3 + 1))) = some (r1, r2) := by first | (rw [hy134]; with_reducible exact H) | (have H2_ := (Option.bind_some _ _).symm.trans H; rw [hy134]; with_reducible exact H2_) | (have H2_ := (Option.bind_some _ _).symm.trans H; with_reducible exact H2_) | with_reducible exact H | (rw [hy134]; exact H) | exact H
                have Ny134 := Aside0.mk hy134
                clear hy134
                have H' := Aside0.mk H
                clear H
                try go_wp2_with (first | ((with_reducible refine gate_dst (N := 48) rfl ?_); refine Kd.R_lit (Kd.int .i64) _ 3 ?hg (N := 48) ?hd (xs := ([x11_3, 0] : List Int)) (inner := [.int .i64 x11_3, .int .i64 0]) (ok := fun _ => True) (okp := fun _ => True) ?hr ?hp (fun _ hk => hk) trivial (Below.refl _ _) (Nat.le_refl _) (by simp) ?_; (case hd => rfl); (case hg => rfl); (case hr => first | (go_simp; done) | (go_simp; rfl)); (case hp => exact (Reps.one (show Kd.M (Kd.int .i64) _ _ _ x11_3 [.int .i64 x11_3] from rfl) (Reps.one (show Kd.M (Kd.int .i64) _ _ _ 0 [.int .i64 0] from rfl) (Reps.none _ _)))); intro v128 w32 ho33 hb hg_ hnew_; clear hg_ hnew_; (first | rw [← Ny127.out] at ho33 | (simp only [Int.reduceToNat] at ho33; rw [← Ny127.out] at ho33)); have n0_ := Aside0.mk (Kd.R_elder' (by (with_reducible repeat (first | apply Kd.R_alloc | apply Kd.R_drewN | apply Kd.R_drew)); exact HO_10.out) (Kd.R_base ho33) hb); have n1_ := Aside0.mk (Kd.R_lower (Kd.R_new' ho33 (Kd.R_lt (by (with_reducible repeat (first | apply Kd.R_alloc | apply Kd.R_drewN | apply Kd.R_drew)); exact HO_10.out))) (below_size (by repeat (first | (with_reducible first | exact HB.out | apply below_alloc | apply pw_below_drewN | apply below_drew1) | exact HB.out)))); have n2_ := Aside0.mk (below_step (by repeat (first | (with_reducible first | exact HB.out | apply below_alloc | apply pw_below_drewN | apply below_drew1) | exact HB.out)) hb); clear HO_10; clear HB; have HO_10 := n0_; have HO129 := n1_; have HB := n2_; clear n0_ n1_ n2_; clear hb ho33; obtain ⟨Ao34, co34, eo34⟩ := Kd.R_slice HO129.out; subst eo34) | ((with_reducible refine gate_callee (f := 24) rfl ?_); refine goesL_ (some 49) rfl rfl Tryd.func24 (by kernel_rfl) rfl #[.string a3, .slice Ao34 y127.length co34] rfl (by (try simp only [List.map_toArray, List.map_cons, List.map_nil]); first | done | rfl | (simp only [List.length_drop, List.length_take]; rfl)) ?_; (with_reducible refine (rangeproof_hash.calls a3 _ _ y127 t130 _ ?side1 ?side2 A24.out (TabTen.below hTTen.out (by repeat (first | exact HB.out | exact Below.refl _ _ | apply below_alloc | apply pw_below_drewN | apply below_drew1 | apply below_drew)))).mono ?_); (case side1 => repeat (first | exact (Kd.R_reads' HO129.out).2.2 | (with_reducible refine Kd.C_alloc ?_ _) | (with_reducible refine Kd.C_drewN ?_ _) | (with_reducible refine Kd.C_drew ?_))); (case side2 => exact (Kd.R_reads' HO129.out).2.1); rintro e w35 ⟨rfl, hb⟩; refine ⟨_, rfl, ?_⟩; have n0_ := Aside0.mk (Kd.R_below (by (with_reducible repeat (first | apply Kd.R_alloc | apply Kd.R_drewN | apply Kd.R_drew)); exact HO_10.out) hb); have n1_ := Aside0.mk (Kd.R_below (by (with_reducible repeat (first | apply Kd.R_alloc | apply Kd.R_drewN | apply Kd.R_drew)); exact HO129.out) hb); have n2_ := Aside0.mk (below_step (by repeat (first | (with_reducible first | exact HB.out | apply below_alloc | apply pw_below_drewN | apply below_drew1) | exact HB.out)) hb); clear HO_10; clear HO129; clear HB; have HO_10 := n0_; have HO129 := n1_; have HB := n2_; clear n0_ n1_ n2_; (try clear hb); (try clear hb2); (try clear hk); (try clear hi); have p27 : 0 ≤ (x11_3 : Int) := of_decide_eq_true (by first | (with_reducible assumption) | assumption); have q27 : (x11_3 : Int) < ((x10_3.length : Int) : Int) := of_decide_eq_true (by first | (with_reducible assumption) | assumption); obtain ⟨hx27_0, hf27_0⟩ := Kd.R_celln 0 HO_10.out (x11_3 : Int) p27 q27; replace p27 := eq_true p27; replace q27 := eq_true q27; have n_ := Aside0.mk (Kd.R_mono (ok' := (fun k_ => some k_ ≠ (.slice Ao34 y127.length co34 : Value).ownBlock)) HO_10.out (fun k_ hk => hk.2)); clear HO_10; have HO_10 := n_; clear n_; obtain ⟨hy36_, hz36_⟩ := Kd.R_celln 0 HO_10.out (x11_3 : Int) (of_decide_eq_true (by first | (with_reducible assumption) | assumption)) (of_decide_eq_true (by first | (with_reducible assumption) | assumption)); have HP36 := Kd.R_putg HO_10.out (x11_3 : Int) t130) | ((with_reducible refine gate_store (t := 3) (p := 50) rfl ?_); refine store_event (t := 3) (p := 50) (v := ?vo_w37) (w1 := (w35.setCell ⟨go18, (x11_3 : Int).toNat, none⟩ (.int .i64 t130))) ?hg ?ho ?hn ?hr ?_; (case ho => rfl); (case hg => rfl); (case hn => rfl); (case hr => first | (go_simp; done) | (go_simp; rfl)); intro w37 hw; have hg : w35.grownBy w37 (some go18) := (by rw [hw]; exact HP36.2); have hp_ : Kd.R (Kd.int .i64) 3 w37 w.heap.size (fun k_ => some k_ ≠ (.slice Ao34 y127.length co34 : Value).ownBlock) (.slice (some ⟨go18, 0, none⟩) x10_3.length co18) y131 := (by rw [hw, Ny131.out]; exact HP36.1); clear HP36; have n0_ := Aside0.mk (hp_); have n1_ := Aside0.mk (Kd.R_after (v := (.slice (some ⟨go18, 0, none⟩) x10_3.length co18)) (v1 := (.slice (some ⟨go18, 0, none⟩) x10_3.length co18)) (ok := (fun _ => True)) (by (with_reducible repeat (first | apply Kd.R_alloc | apply Kd.R_drewN | apply Kd.R_drew)); exact HO129.out) hg (.inl rfl)); have n2_ := Aside0.mk ((by rw [hw]; exact below_set (HB.out) GB18.out : Below w.heap.size w w37)); clear HO_10; clear HO129; clear HB; have HO_10 := n0_; have HO129 := n1_; have HB := n2_; clear n0_ n1_ n2_; clear hg hw hp_))
                have n0_ := Aside0.mk (Kd.R_drew HO_10.out)
                have n1_ := Aside0.mk (Kd.R_drew HO129.out)
                have n2_ := Aside0.mk (below_drew1 HB.out)
                clear HO_10
                clear HO129
                clear HB
                have HO_10 := n0_
                have HO129 := n1_
                have HB := n2_
                clear n0_ n1_ n2_
                have p132 : 0 ≤ (0 : Int) := (by omega)
                have q132 : 0 < (y131.length : Int) := (by have h_ : (0 : Int) < ((x10_3.length : Int) : Int) := of_decide_eq_true (by first | (with_reducible assumption) | assumption); first | (have e_ := (Kd.R_reads' HO_10.out).1; omega) | simpa only [Ny131.out, List.length_set] using h_)
                have ql132 : ((0 : Int) < ((x10_3.length : Int) : Int)) = True := eq_true (of_decide_eq_true (by first | (with_reducible assumption) | assumption))
                (try have qn132 : (0 < x10_3.length) = True := eq_true (by have h_ : (0 : Int) < ((x10_3.length : Int) : Int) := of_decide_eq_true (by first | (with_reducible assumption) | assumption); omega))
                obtain ⟨ad132, e132, hx132_0⟩ := Kd.at_int (Kd.R_reads' HO_10.out).2.2 0 p132 q132
                obtain rfl : (⟨go18, 0, none⟩ : Addr) = ad132 := (by injection e132)
                (first | simp only [add_plain] at hx132_0 | simp only [add_at] at hx132_0 | simp only [Addr.add, Nat.zero_add] at hx132_0 | skip)
                have qi132 : (0 < y131.length) = True := eq_true (by omega)
                (try rw [show ((0 : Int)).toNat = 0 from rfl] at hx132_0)
                (try rw [Addr.add_zero'] at hx132_0)
                replace p132 := eq_true p132
                replace q132 := eq_true q132
                have p133 : 0 ≤ (x11_3 : Int) := of_decide_eq_true (by first | (with_reducible assumption) | assumption)
                have q133 : x11_3 < (y131.length : Int) := (by have h_ : (x11_3 : Int) < ((x10_3.length : Int) : Int) := of_decide_eq_true (by first | (with_reducible assumption) | assumption); first | (have e_ := (Kd.R_reads' HO_10.out).1; omega) | simpa only [Ny131.out, List.length_set] using h_)
                have ql133 : ((x11_3 : Int) < ((x10_3.length : Int) : Int)) = True := eq_true (of_decide_eq_true (by first | (with_reducible assumption) | assumption))
                obtain ⟨ad133, e133, hx133_0⟩ := Kd.at_int (Kd.R_reads' HO_10.out).2.2 x11_3 p133 q133
                obtain rfl : (⟨go18, 0, none⟩ : Addr) = ad133 := (by injection e133)
                (first | simp only [add_plain] at hx133_0 | simp only [add_at] at hx133_0 | simp only [Addr.add, Nat.zero_add] at hx133_0 | skip)
                replace p133 := eq_true p133
                replace q133 := eq_true q133
                have p31 : 0 ≤ (0 : Int) := (by omega)
                have q31 : (0 : Int) < ((x10_3.length : Int) : Int) := of_decide_eq_true (by first | (with_reducible assumption) | assumption)
                have qi31 : (0 < x10_3.length) = True := eq_true (by omega)
                obtain ⟨hx31_0, hf31_0⟩ := Kd.R_celln 0 HO_10.out (0 : Int) p31 q31
                (try rw [show ((0 : Int)).toNat = 0 from rfl] at hx31_0)
                (try simp only [Nat.reduceMul, Nat.zero_mul, Nat.zero_add, Nat.reduceAdd] at hx31_0)
                (try rw [show ((0 : Int)).toNat = 0 from rfl] at hf31_0)
                (try simp only [Nat.reduceMul, Nat.zero_mul, Nat.zero_add, Nat.reduceAdd] at hf31_0)
                replace p31 := eq_true p31
                replace q31 := eq_true q31
                have HP39 := Kd.R_putn HO_10.out (0 : Int) (Int.tmod (wrap64 ((wrap64 ((rd y131 0) - (Int.tmod (ji30) 1073741789))) + 1073741789)) 1073741789)
                rw [← Ny134.out] at HP39
                have HQ39 := Aside0.mk HP39
                clear HP39
                refine start_ (n := 16) (S := fun w' => w'.cell? ⟨go18, 0, none⟩ = some (.int .i64 (rd y131 0)) ∧ w'.cell? ⟨go18, (x11_3).toNat, none⟩ = some (.int .i64 (rd y131 x11_3))) (ds := [15]) #[false, false, false, false, false, false, false, false, false, false, false, false, false, false, false, false] (by kernel_rfl) rfl rfl ⟨hx132_0, hx133_0⟩ (fun hHeld => ?_); refine with_tabW rangeproof_Prove.tab11 rangeproof_Prove.bits11 (fun HT_ HW_ => ?_)
                generalize w37.drew = w38 at HO_10 HO129 HB HQ39 hf31_0 hx132_0 hx133_0 hx31_0 hHeld ⊢
                refine pure_ (i := 0) (N := some 51) (v := ?_) (a' := ?_) #[true, false, false, false, false, false, false, false, false, false, false, false, false, false, false, false] rfl rfl (any_of HT_.out (by kernel_rfl)) (fun _ _ _ h => h) (Or.inl ⟨by rfl, ?_⟩) ?_ ?_
                rotate_left
                ·intro w'
                 go_simp
                 with_reducible rfl
                rotate_left
                ·simp only [Act.put, List.setIfInBounds_toArray, List.set_cons_zero, List.set_cons_succ, i64_w, i32_w]
                 rfl
                refine pure_ (i := 1) (N := some 52) (v := ?_) (a' := ?_) #[true, true, false, false, false, false, false, false, false, false, false, false, false, false, false, false] rfl rfl (any_of HT_.out (by kernel_rfl)) (fun _ _ _ h => h) (Or.inl ⟨by rfl, ?_⟩) ?_ ?_
                rotate_left
                ·intro w'
                 go_simp
                 with_reducible rfl
                rotate_left
                ·simp only [Act.put, List.setIfInBounds_toArray, List.set_cons_zero, List.set_cons_succ, i64_w, i32_w]
                 rfl
                refine pure_ (i := 2) (N := some 53) (v := ?_) (a' := ?_) #[true, true, true, false, false, false, false, false, false, false, false, false, false, false, false, false] rfl rfl (any_of HT_.out (by kernel_rfl)) (fun _ _ _ h => h) (Or.inl ⟨by rfl, ?_⟩) ?_ ?_
                rotate_left
                ·intro w'
                 go_simp
                 with_reducible rfl
                rotate_left
                ·simp only [Act.put, List.setIfInBounds_toArray, List.set_cons_zero, List.set_cons_succ, i64_w, i32_w]
                 rfl
                refine pure_ (i := 4) (N := some 55) (v := ?_) (a' := ?_) #[true, true, true, false, true, false, false, false, false, false, false, false, false, false, false, false] rfl rfl (any_of HT_.out (by kernel_rfl)) (fun _ _ _ h => h) (Or.inl ⟨by rfl, ?_⟩) ?_ ?_
                rotate_left
                ·intro w'
                 go_simp
                 with_reducible rfl
                rotate_left
                ·simp only [Act.put, List.setIfInBounds_toArray, List.set_cons_zero, List.set_cons_succ, i64_w, i32_w]
                 rfl
                refine pure_ (i := 5) (N := some 56) (v := ?_) (a' := ?_) #[true, true, true, false, true, true, false, false, false, false, false, false, false, false, false, false] rfl rfl (any_of HT_.out (by kernel_rfl)) (fun _ _ _ h => h) (Or.inl ⟨by rfl, ?_⟩) ?_ ?_
                rotate_left
                ·intro w'
                 go_simp
                 with_reducible rfl
                rotate_left
                ·simp only [Act.put, List.setIfInBounds_toArray, List.set_cons_zero, List.set_cons_succ, i64_w, i32_w]
                 rfl
                refine pure_ (i := 6) (N := some 57) (v := ?_) (a' := ?_) #[true, true, true, false, true, true, true, false, false, false, false, false, false, false, false, false] rfl rfl (any_of HT_.out (by kernel_rfl)) (fun _ _ _ h => h) (Or.inl ⟨by rfl, ?_⟩) ?_ ?_
                rotate_left
                ·intro w'
                 go_simp
                 with_reducible rfl
                rotate_left
                ·simp only [Act.put, List.setIfInBounds_toArray, List.set_cons_zero, List.set_cons_succ, i64_w, i32_w]
                 rfl
                refine pure_ (i := 8) (N := some 59) (v := ?_) (a' := ?_) #[true, true, true, false, true, true, true, false, true, false, false, false, false, false, false, false] rfl rfl (any_of HT_.out (by kernel_rfl)) (fun _ _ _ h => h) (Or.inl ⟨by rfl, ?_⟩) ?_ ?_
                rotate_left
                ·intro w'
                 go_simp
                 with_reducible rfl
                rotate_left
                ·simp only [Act.put, List.setIfInBounds_toArray, List.set_cons_zero, List.set_cons_succ, i64_w, i32_w]
                 rfl
                refine take_ (i := 3) (N := some 54) (v := ?_) (a' := ?_) #[true, true, true, true, true, true, true, false, true, false, false, false, false, false, false, false] rfl rfl (take_ofW HT_.out HW_.out (by kernel_rfl)) (fun _ _ _ h => h) (Or.inl ⟨by rfl, ?_⟩) hHeld ?_ ?_
                rotate_left
                ·rintro w' ⟨s0, s1⟩
                 go_simp
                 with_reducible rfl
                rotate_left
                ·simp only [Act.put, List.setIfInBounds_toArray, List.set_cons_zero, List.set_cons_succ, i64_w, i32_w]
                 rfl
                refine take_ (i := 7) (N := some 58) (v := ?_) (a' := ?_) #[true, true, true, true, true, true, true, true, true, false, false, false, false, false, false, false] rfl rfl (take_ofW HT_.out HW_.out (by kernel_rfl)) (fun _ _ _ h => h) (Or.inl ⟨by rfl, ?_⟩) hHeld ?_ ?_
                rotate_left
                ·rintro w' ⟨s0, s1⟩
                 go_simp
                 with_reducible rfl
                rotate_left
                ·simp only [Act.put, List.setIfInBounds_toArray, List.set_cons_zero, List.set_cons_succ, i64_w, i32_w]
                 rfl
                refine pure_ (i := 9) (N := some 60) (v := ?_) (a' := ?_) #[true, true, true, true, true, true, true, true, true, true, false, false, false, false, false, false] rfl rfl (any_of HT_.out (by kernel_rfl)) (fun _ _ _ h => h) (Or.inl ⟨by rfl, ?_⟩) ?_ ?_
                rotate_left
                ·intro w'
                 go_simp
                 with_reducible rfl
                rotate_left
                ·simp only [Act.put, List.setIfInBounds_toArray, List.set_cons_zero, List.set_cons_succ, i64_w, i32_w]
                 rfl
                refine pure_ (i := 10) (N := some 61) (v := ?_) (a' := ?_) #[true, true, true, true, true, true, true, true, true, true, true, false, false, false, false, false] rfl rfl (any_of HT_.out (by kernel_rfl)) (fun _ _ _ h => h) (Or.inl ⟨by rfl, ?_⟩) ?_ ?_
                rotate_left
                ·intro w'
                 go_simp
                 with_reducible rfl
                rotate_left
                ·simp only [Act.put, List.setIfInBounds_toArray, List.set_cons_zero, List.set_cons_succ, i64_w, i32_w]
                 rfl
                refine pure_ (i := 11) (N := some 62) (v := ?_) (a' := ?_) #[true, true, true, true, true, true, true, true, true, true, true, true, false, false, false, false] rfl rfl (any_of HT_.out (by kernel_rfl)) (fun _ _ _ h => h) (Or.inl ⟨by rfl, ?_⟩) ?_ ?_
                rotate_left
                ·intro w'
                 go_simp
                 with_reducible rfl
                rotate_left
                ·simp only [Act.put, List.setIfInBounds_toArray, List.set_cons_zero, List.set_cons_succ, i64_w, i32_w]
                 rfl
                refine pure_ (i := 12) (N := some 63) (v := ?_) (a' := ?_) #[true, true, true, true, true, true, true, true, true, true, true, true, true, false, false, false] rfl rfl (any_of HT_.out (by kernel_rfl)) (fun _ _ _ h => h) (Or.inl ⟨by rfl, ?_⟩) ?_ ?_
                rotate_left
                ·intro w'
                 go_simp
                 with_reducible rfl
                rotate_left
                ·simp only [Act.put, List.setIfInBounds_toArray, List.set_cons_zero, List.set_cons_succ, i64_w, i32_w]
                 rfl
                refine pure_ (i := 13) (N := some 64) (v := ?_) (a' := ?_) #[true, true, true, true, true, true, true, true, true, true, true, true, true, true, false, false] rfl rfl (any_of HT_.out (by kernel_rfl)) (fun _ _ _ h => h) (Or.inl ⟨by rfl, ?_⟩) ?_ ?_
                rotate_left
                ·intro w'
                 go_simp
                 with_reducible rfl
                rotate_left
                ·simp only [Act.put, List.setIfInBounds_toArray, List.set_cons_zero, List.set_cons_succ, i64_w, i32_w]
                 rfl
                refine pure_ (i := 14) (N := some 65) (v := ?_) (a' := ?_) #[true, true, true, true, true, true, true, true, true, true, true, true, true, true, true, false] rfl rfl (any_of HT_.out (by kernel_rfl)) (fun _ _ _ h => h) (Or.inl ⟨by rfl, ?_⟩) ?_ ?_
                rotate_left
                ·intro w'
                 go_simp
                 with_reducible rfl
                rotate_left
                ·simp only [Act.put, List.setIfInBounds_toArray, List.set_cons_zero, List.set_cons_succ, i64_w, i32_w]
                 rfl
                refine last_ (i := 15) (N := none) #[true, true, true, true, true, true, true, true, true, true, true, true, true, true, true, true] rfl rfl (one_of HT_.out (by kernel_rfl)) (by decide) (fun K hK => ?_)
                refine skip_ (w1 := ?_) (by rfl) rfl ?_ ?_
                rotate_left
                ·go_simp
                 rfl
                refine hK.out _ _ ?_
                clear hK K
                refine done_ (done_of HT_.out (by kernel_rfl)) ?_
                try go_wp2
                (try simp only [← hl10_3])
                go_roundg k3
                case measure => have := HJ4.out; have := HJ9.out; have := HK3.out; omega
                case rel => exact ⟨(y134), (wrap64 (x11_3 + 1)), (by first | rfl | (simp; done) | (simp [*]; done)), H', ⟨by have := HJ4.out; have := HJ9.out; have := HK3.out; omega⟩, ⟨by (try simp only [hl10_3]); (with_reducible repeat (first | apply Kd.R_alloc | apply Kd.R_drewN | apply Kd.R_drew)); exact Kd.R_mono HQ39.out (fun _ hk => trivial)⟩, ⟨by repeat (first | (with_reducible first | exact HB.out | apply below_alloc | apply pw_below_drewN | apply below_drew1 | refine below_set ?_ GB18.out) | exact HB.out)⟩⟩
               ·rw [if_neg c28] at H
                exact absurd H (by simp)
              ·rw [if_neg c26] at H
               exact absurd H (by simp)
             ·rw [if_neg c25] at H
              exact absurd H (by simp)
            ·rw [if_neg c23] at H
             have c23b0 : decide (x11_3 < a2) = false := decide_eq_false c23
             clear c23
             have H' := Aside0.mk H
             clear H
             go_wp2
             go_loopg [12, 68] k3 (fun kq v12 v68 w' => ∃ (x12_4 : List (S25)) (x68_4 : Int), v68 = .int .i64 x68_4 ∧ Aside0 (rangeproof_Prove.l1 kq a0 a3 x12_4 x10_3 (x10_3.length : Int) x68_4 = some (r1, r2)) ∧ Aside0 (kq ≤ k3) ∧ Aside0 (Kd.R k25 25 w' w.heap.size (fun _ => True) v12 x12_4) ∧ Aside0 (Kd.R (Kd.int .i64) 3 w' w.heap.size (fun _ => True) (.slice (some ⟨go18, 0, none⟩) x10_3.length co18) x10_3) ∧ Aside0 (Below w.heap.size w w'))
             case atStart => exact ⟨(([] : List (S25))), (0), (by first | rfl | (simp; done) | (simp [*]; done)), H', ⟨Nat.le_refl _⟩, ⟨by (try simp only [hl10_3]); first | exact Kd.R_nil _ _ _ _ _ | exact Kd.N_nil _ _ _ _ _ | exact Kd.V_nil _ _ _ _ _ | exact Kd.Q_nil _ _ _ _ _ | exact Kd.S_nil _ _ _ _ _⟩, ⟨by (try simp only [hl10_3]); (with_reducible repeat (first | apply Kd.R_alloc | apply Kd.R_drewN | apply Kd.R_drew)); exact HO_10.out⟩, ⟨by repeat (first | (with_reducible first | exact HB.out | apply below_alloc | apply pw_below_drewN | apply below_drew1) | exact HB.out)⟩⟩
             case round =>
              clear H'
              try clear c1
              try clear p1
              try clear q1
              try clear hx1
              try clear qi1
              try clear c2
              try clear p2
              try clear q2
              try clear hx2
              try clear p3
              try clear q3
              try clear hx3
              try clear qi3
              try clear c6
              try clear c6b0
              try clear p6
              try clear c7
              try clear c7b0
              try clear c9
              try clear c10
              try clear c11
              try clear c11b0
              try clear c12
              try clear c12b0
              try clear c12b1
              try clear p13
              try clear q13
              try clear hx13
              try clear qi13
              try clear c14
              try clear c15
              try clear c15b0
              try clear c15b1
              try clear c16
              try clear c16b0
              try clear c16b1
              try clear c17
              try clear c17b0
              try clear c17b1
              try clear p18
              try clear q18
              try clear hx18
              try clear qi18
              try clear hf18
              try clear c23
              try clear c23b0
              try clear c24
              try clear c25
              try clear c25b0
              try clear c26
              try clear c26b0
              try clear p27
              try clear q27
              try clear hx27
              try clear hf27
              try clear c28
              try clear c28b0
              try clear c28b1
              try clear c29
              try clear c29b0
              try clear p31
              try clear q31
              try clear hx31
              try clear qi31
              try clear hf31
              try clear hx132_0
              try clear hx133_0
              try clear hx18_0
              try clear hx27_0
              try clear hx31_0
              try clear p1
              try clear p132
              try clear p133
              try clear p18
              try clear p2
              try clear p27
              try clear p31
              try clear q1
              try clear q132
              try clear q133
              try clear q18
              try clear q27
              try clear q31
              obtain ⟨x12_4, x68_4, rfl, HA, HK4, HO_12, HO_66, HB⟩ := hrel
              cases gk with
              | zero => exact absurd HA.out (by simp [rangeproof_Prove.l1])
              | succ k4 =>
               have H := HA.out
               clear HA
               simp only [rangeproof_Prove.l1] at H
               by_cases c40 : x68_4 < (x10_3.length : Int)
               ·rw [if_pos c40] at H
                have c40b0 : decide (x68_4 < (x10_3.length : Int)) = true := decide_eq_true c40
                clear c40
                by_cases c41 : 0 ≤ x68_4
                ·rw [if_pos c41] at H
                 have c41b0 : decide (0 ≤ x68_4) = true := decide_eq_true c41
                 clear c41
                 by_cases c42 : x68_4 < (x10_3.length : Int)
                 ·rw [if_pos c42] at H
                  have c42b0 : decide (x68_4 < (x10_3.length : Int)) = true := decide_eq_true c42
                  clear c42
                  have c43b0 := eq_true (of_decide_eq_true (by first | (with_reducible assumption) | assumption) : 0 ≤ x68_4)
                  obtain ⟨ji44, hji44⟩ : ∃ j_ : Int, (shr .i64 a0 x68_4) = j_ := ⟨_, rfl⟩
                  replace H : ((rangeproof_proveBit.f (Go.bits .and .i64 (ji44) 1) (rd x10_3 x68_4) a3 x68_4).bind fun bt136 => (if x12_4.length < 2513169434916 then (rangeproof_Prove.l1 k4 a0 a3 (x12_4 ++ [(⟨bt136.1, (⟨bt136.2.1, bt136.2.2.1⟩ : S23), (⟨bt136.2.2.2.1, bt136.2.2.2.2.1⟩ : S23), (⟨bt136.2.2.2.2.2.1, bt136.2.2.2.2.2.2⟩ : S23)⟩ : S25)]) x10_3 (x10_3.length : Int) (wrap64 (x68_4 + 1))) else (none))) = some (r1, r2) := by first | (rw [hji44] at H; exact H) | (simp only [hji44] at H ⊢; exact H)
                  have hji44_ : (a0 / 2 ^ min x68_4.toNat 64) = ji44 := hji44
                  have hji44z : x68_4 ≤ 64 → (a0 / 2 ^ x68_4.toNat) = ji44 := shr_small hji44
                  replace H := Option.bind_eq_some_iff.mp H
                  obtain ⟨⟨t136, t137, t138, t139, t140, t141, t142⟩, A450, H⟩ := H
                  replace H : (if x12_4.length < 2513169434916 then (rangeproof_Prove.l1 k4 a0 a3 (x12_4 ++ [(⟨t136, (⟨t137, t138⟩ : S23), (⟨t139, t140⟩ : S23), (⟨t141, t142⟩ : S23)⟩ : S25)]) x10_3 (x10_3.length : Int) (wrap64 (x68_4 + 1))) else (none)) = some (r1, r2) := H
                  have A45 := Aside0.mk A450
                  clear A450
                  by_cases c46 : x12_4.length < 2513169434916
                  ·rw [if_pos c46] at H
                   have LMc46 := Aside0.mk c46
                   clear c46
                   obtain ⟨y143, hy143⟩ : ∃ y_ : List (S25), y_ = (x12_4 ++ [(⟨t136, (⟨t137, t138⟩ : S23), (⟨t139, t140⟩ : S23), (⟨t141, t142⟩ : S23)⟩ : S25)]) := ⟨_, rfl⟩
                   replace H : (rangeproof_Prove.l1 k4 a0 a3 y143 x10_3 (x10_3.length : Int) (wrap64 (x68_4 + 1))) = some (r1, r2) := by first | (rw [hy143]; with_reducible exact H) | (have H2_ := (Option.bind_some _ _).symm.trans H; rw [hy143]; with_reducible exact H2_) | (have H2_ := (Option.bind_some _ _).symm.trans H; with_reducible exact H2_) | with_reducible exact H | (rw [hy143]; exact H) | exact H
                   have Ny143 := Aside0.mk hy143
                   clear hy143
                   have H' := Aside0.mk H
                   clear H
                   have p135 : 0 ≤ (x68_4 : Int) := of_decide_eq_true (by first | (with_reducible assumption) | assumption)
                   have q135 : x68_4 < (x10_3.length : Int) := of_decide_eq_true (by first | (with_reducible assumption) | assumption)
                   obtain ⟨ad135, e135, hx135_0⟩ := Kd.at_int (Kd.R_reads' HO_66.out).2.2 x68_4 p135 q135
                   obtain rfl : (⟨go18, 0, none⟩ : Addr) = ad135 := (by injection e135)
                   (first | simp only [add_plain] at hx135_0 | simp only [add_at] at hx135_0 | simp only [Addr.add, Nat.zero_add] at hx135_0 | skip)
                   replace p135 := eq_true p135
                   replace q135 := eq_true q135
                   go_wp2_with (first | ((with_reducible refine gate_callee (f := 25) rfl ?_); refine goesL_ (some 81) rfl rfl Tryd.func25 (by kernel_rfl) rfl #[.int .i64 (Go.bits .and .i64 (ji44) 1), .int .i64 (rd x10_3 x68_4), .string a3, .int .i64 x68_4] rfl (by (try simp only [List.map_toArray, List.map_cons, List.map_nil]); first | done | (simp only [hji44]; rfl) | rfl | (simp only [List.length_drop, List.length_take]; rfl)) ?_; (with_reducible refine (rangeproof_proveBit.calls (Go.bits .and .i64 (ji44) 1) (rd x10_3 x68_4) a3 x68_4 t136 t137 t138 t139 t140 t141 t142 _ A45.out (TabGen.below hTGen.out (by repeat (first | exact HB.out | exact Below.refl _ _ | apply below_alloc | apply pw_below_drewN | apply below_drew1 | apply below_drew))) (TabTen.below hTTen.out (by repeat (first | exact HB.out | exact Below.refl _ _ | apply below_alloc | apply pw_below_drewN | apply below_drew1 | apply below_drew)))).mono ?_); rintro e w47 ⟨rfl, hb⟩; refine ⟨_, rfl, ?_⟩; have n0_ := Aside0.mk (Kd.R_below (by (with_reducible repeat (first | apply Kd.R_alloc | apply Kd.R_drewN | apply Kd.R_drew)); exact HO_12.out) hb); have n1_ := Aside0.mk (Kd.R_below (by (with_reducible repeat (first | apply Kd.R_alloc | apply Kd.R_drewN | apply Kd.R_drew)); exact HO_66.out) hb); have n2_ := Aside0.mk (below_step (by repeat (first | (with_reducible first | exact HB.out | apply below_alloc | apply pw_below_drewN | apply below_drew1) | exact HB.out)) hb); clear HO_12; clear HO_66; clear HB; have HO_12 := n0_; have HO_66 := n1_; have HB := n2_; clear n0_ n1_ n2_; (try clear hb); (try clear hb2); (try clear hk); (try clear hi)) | ((with_reducible refine gate_builtin (b := .append) (xs := #[.tmp 73, .tmp 82]) rfl ?_); at_builtin; refine Kd.R_append k25 (w0 := w) w.heap.size rfl (.tmp 73) (.tmp 82) 22 25 (.agg #[(.int .i64 0), (.int .i64 0), (.int .i64 0), (.int .i64 0), (.int .i64 0), (.int .i64 0), (.int .i64 0)]) 56 rfl Tryd.underlying22 info25 rfl (by decide) (by omega) u12 x12_4 (⟨t136, (⟨t137, t138⟩ : S23), (⟨t139, t140⟩ : S23), (⟨t141, t142⟩ : S23)⟩ : S25) [.int .i64 t136, .int .i64 t137, .int .i64 t138, .int .i64 t139, .int .i64 t140, .int .i64 t141, .int .i64 t142] (fun _ => True) (fun _ => False) rfl rfl ?aP (fun _ hk => hk.elim) ?aF ?aO ?aB ?aS ?aL ?_; (case aP => exact k25_mkM _ _ _ (⟨t136, (⟨t137, t138⟩ : S23), (⟨t139, t140⟩ : S23), (⟨t141, t142⟩ : S23)⟩ : S25)); (case aB => exact (by repeat (first | (with_reducible first | exact HB.out | apply below_alloc | apply pw_below_drewN | apply below_drew1) | exact HB.out))); (case aF => exact (fun _ _ => trivial)); (case aO => exact (by (with_reducible repeat (first | apply Kd.R_alloc | apply Kd.R_drewN | apply Kd.R_drew)); exact HO_12.out)); (case aS => exact (below_size (by repeat (first | (with_reducible first | exact HB.out | apply below_alloc | apply pw_below_drewN | apply below_drew1) | exact HB.out)))); (case aL => have := LMc46.out; omega); intro v144 w48 ho hb hg hat; rw [← Ny143.out] at ho; have n0_ := Aside0.mk (Kd.R_over' (by (with_reducible repeat (first | apply Kd.R_alloc | apply Kd.R_drewN | apply Kd.R_drew)); exact HO_66.out) (Kd.R_typed (by (with_reducible repeat (first | apply Kd.R_alloc | apply Kd.R_drewN | apply Kd.R_drew)); exact HO_12.out)) (by decide) hg); have n1_ := Aside0.mk (hb); have n2_ := Aside0.mk (ho); clear HO_66; clear HB; clear HO_12; have HO_66 := n0_; have HB := n1_; have HO145 := n2_; clear n0_ n1_ n2_; clear ho hb hg hat))
                   go_roundg k4
                   case measure => have := HJ4.out; have := HJ9.out; have := HK3.out; have := HK4.out; omega
                   case rel => exact ⟨(y143), (wrap64 (x68_4 + 1)), (by first | rfl | (simp; done) | (simp [*]; done)), H', ⟨by have := HJ4.out; have := HJ9.out; have := HK3.out; have := HK4.out; omega⟩, ⟨by (try simp only [hl10_3]); (with_reducible repeat (first | apply Kd.R_alloc | apply Kd.R_drewN | apply Kd.R_drew)); exact HO145.out⟩, ⟨by (try simp only [hl10_3]); (with_reducible repeat (first | apply Kd.R_alloc | apply Kd.R_drewN | apply Kd.R_drew)); exact HO_66.out⟩, ⟨by repeat (first | (with_reducible first | exact HB.out | apply below_alloc | apply pw_below_drewN | apply below_drew1) | exact HB.out)⟩⟩
                  ·rw [if_neg c46] at H
                   exact absurd H (by simp)
                 ·rw [if_neg c42] at H
                  exact absurd H (by simp)
                ·rw [if_neg c41] at H
                 exact absurd H (by simp)
               ·rw [if_neg c40] at H
                have c40b0 : decide (x68_4 < (x10_3.length : Int)) = false := decide_eq_false c40
                clear c40
                simp only [Option.some.injEq, Prod.mk.injEq] at H
                obtain ⟨rfl, rfl⟩ := H
                go_wp2
                go_ret2
                exact ⟨_, by first | rfl | (simp [errW_none, errW_some] <;> rfl) | (simp [*, errW_none, errW_some] <;> rfl), by (with_reducible repeat (first | apply Kd.R_alloc | apply Kd.R_drewN | apply Kd.R_drew)); exact HO_12.out, by repeat (first | (with_reducible first | exact HB.out | apply below_alloc | apply pw_below_drewN | apply below_drew1) | exact HB.out)⟩
         ·rw [if_neg c17] at H
          exact absurd H (by simp)
        ·rw [if_neg c16] at H
         exact absurd H (by simp)
       ·rw [if_neg c15] at H
        exact absurd H (by simp)

/-! ### rangeproof_isElement: function 58 -/
def rangeproof_isElement.f (a0 : Int) : Option (Bool) := if a0 > 0 then (if a0 < 2147483579 then ((commitment_Power.f a0 1073741789).bind fun t146 => (some (t146 == 1))) else (some false)) else (some false)
set_option maxHeartbeats 8000000 in
set_option maxRecDepth 100000 in
theorem rangeproof_isElement.calls (a0 : Int) (r : Bool) (w : World) (h : rangeproof_isElement.f a0 = some r) :
  Calls Tryd.prog 58 #[.int .i64 a0] w fun e w' => e = .returned (.bool r) ∧ Below w.heap.size w w' := by
 have HB := Aside0.mk (Below.refl w.heap.size w)
 have H : (if a0 > 0 then (if a0 < 2147483579 then ((commitment_Power.f a0 1073741789).bind fun t146 => (some (t146 == 1))) else (some false)) else (some false)) = some r := h
 clear h
 by_cases c2 : a0 > 0
 ·rw [if_pos c2] at H
  have c2b0 : decide (0 < a0) = true := decide_eq_true c2
  clear c2
  by_cases c3 : a0 < 2147483579
  ·rw [if_pos c3] at H
   have c3b0 : decide (a0 < 2147483579) = true := decide_eq_true c3
   clear c3
   replace H := Option.bind_eq_some_iff.mp H
   obtain ⟨t146, A40, H⟩ := H
   replace H : (some (t146 == 1)) = some r := H
   have A4 := Aside0.mk A40
   clear A40
   obtain rfl := Option.some.inj H
   go_enter Tryd.func58, Tryd.ntmps58
   go_wp2_with (first | (go_at_call 18; (with_reducible refine (commitment_Power.calls a0 1073741789 t146 _ A4.out).mono ?_); rintro e w5 ⟨rfl, hb⟩; have n0_ := Aside0.mk (below_step (by repeat (first | (with_reducible first | exact HB.out | apply below_alloc | apply pw_below_drewN | apply below_drew1) | exact HB.out)) hb); clear HB; have HB := n0_; clear n0_; (try clear hb); (try clear hb2); (try clear hk); (try clear hi)))
   go_ret
   exact ⟨by first | rfl | (simp [errW_none, errW_some] <;> rfl) | (simp [*, errW_none, errW_some] <;> rfl), by repeat (first | (with_reducible first | exact HB.out | apply below_alloc | apply pw_below_drewN | apply below_drew1) | exact HB.out)⟩
  ·rw [if_neg c3] at H
   have c3b0 : decide (a0 < 2147483579) = false := decide_eq_false c3
   clear c3
   obtain rfl := Option.some.inj H
   go_enter Tryd.func58, Tryd.ntmps58
   go_wp2
   go_ret
   exact ⟨by first | rfl | (simp [errW_none, errW_some] <;> rfl) | (simp [*, errW_none, errW_some] <;> rfl), by repeat (first | (with_reducible first | exact HB.out | apply below_alloc | apply pw_below_drewN | apply below_drew1) | exact HB.out)⟩
 ·rw [if_neg c2] at H
  have c2b0 : decide (0 < a0) = false := decide_eq_false c2
  clear c2
  obtain rfl := Option.some.inj H
  go_enter Tryd.func58, Tryd.ntmps58
  go_wp2
  go_ret
  exact ⟨by first | rfl | (simp [errW_none, errW_some] <;> rfl) | (simp [*, errW_none, errW_some] <;> rfl), by repeat (first | (with_reducible first | exact HB.out | apply below_alloc | apply pw_below_drewN | apply below_drew1) | exact HB.out)⟩

-- GIVEN BY A TEXT OF ITS OWN: function 30 (rangeproof_isRight)

/-! ### rangeproof_powerQ: function 31 -/
def rangeproof_powerQ.l0 : Nat → Int → Int → Int → Option (Int)
 | 0, _, _, _ => none
 | k + 1, x0, x1, x5 => if x1 > 0 then (if (Int.tmod x1 2) = 1 then (rangeproof_powerQ.l0 k (Int.tmod (wrap64 (x0 * x0)) 1073741789) (wrap64 (Int.tdiv x1 2)) (Int.tmod (wrap64 (x5 * x0)) 1073741789)) else (rangeproof_powerQ.l0 k (Int.tmod (wrap64 (x0 * x0)) 1073741789) (wrap64 (Int.tdiv x1 2)) x5)) else (some x5)
def rangeproof_powerQ.f (k : Nat) (a0 : Int) (a1 : Int) : Option (Int) := rangeproof_powerQ.l0 k a0 a1 1
theorem rangeproof_powerQ.mono_l : ∀ k, (∀ y0 y1 y2, LeO (rangeproof_powerQ.l0 k y0 y1 y2) (rangeproof_powerQ.l0 (k + 1) y0 y1 y2))
 | 0 => fun _ _ _ r h => by simp [rangeproof_powerQ.l0] at h
 | k + 1 => by
  have ih0 := rangeproof_powerQ.mono_l k
  ·intro y0 y1 y2
   unfold rangeproof_powerQ.l0
   repeat' first
   | (with_reducible exact ih0 _ _ _)
   | (with_reducible exact LeO.refl _)
   | (with_reducible exact LeO.none _)
   | (with_reducible refine LeO.ite ?_ ?_)
   | (with_reducible refine LeO.bind ?_ (fun _ => ?_))
   | exact ih0 _ _ _
   | exact LeO.none _
   | refine LeO.ite ?_ ?_
   | refine LeO.bind ?_ (fun _ => ?_)
theorem rangeproof_powerQ.mono : ∀ a0 a1 k, LeO (rangeproof_powerQ.f k a0 a1) (rangeproof_powerQ.f (k + 1) a0 a1) := by
 intro a0 a1 k
 have ih0 := rangeproof_powerQ.mono_l k
 unfold rangeproof_powerQ.f
 repeat' first
   | (with_reducible exact ih0 _ _ _)
   | (with_reducible exact LeO.refl _)
   | (with_reducible exact LeO.none _)
   | (with_reducible refine LeO.ite ?_ ?_)
   | (with_reducible refine LeO.bind ?_ (fun _ => ?_))
   | exact ih0 _ _ _
   | exact LeO.none _
   | refine LeO.ite ?_ ?_
   | refine LeO.bind ?_ (fun _ => ?_)
set_option maxHeartbeats 8000000 in
set_option maxRecDepth 100000 in
theorem rangeproof_powerQ.calls (k : Nat) (a0 : Int) (a1 : Int) (r : Int) (w : World) (h : rangeproof_powerQ.f k a0 a1 = some r) :
  Calls Tryd.prog 31 #[.int .i64 a0, .int .i64 a1] w fun e w' => e = .returned (.int .i64 r) ∧ Drawn0 w w' := by
 have H : (rangeproof_powerQ.l0 k a0 a1 1) = some r := h
 clear h
 have H' := Aside0.mk H
 clear H
 go_enter Tryd.func31, Tryd.ntmps31
 go_wp2
 go_loopg [0, 1, 5] k (fun kq v0 v1 v5 w' => ∃ (x0_1 : Int) (x1_1 : Int) (x5_1 : Int), v0 = .int .i64 x0_1 ∧ v1 = .int .i64 x1_1 ∧ v5 = .int .i64 x5_1 ∧ Aside0 (rangeproof_powerQ.l0 kq x0_1 x1_1 x5_1 = some r) ∧ Aside0 (kq ≤ k) ∧ Drawn0 w w')
 case atStart => exact ⟨(a0), (a1), (1), (by first | rfl | (simp; done) | (simp [*]; done)), (by first | rfl | (simp; done) | (simp [*]; done)), (by first | rfl | (simp; done) | (simp [*]; done)), H', ⟨Nat.le_refl _⟩, by repeat (first | exact Drawn0.refl _ | apply Drawn0.step)⟩
 case round =>
  clear H'
  try clear p2
  obtain ⟨x0_1, x1_1, x5_1, rfl, rfl, rfl, HA, HK1, ⟨m1, rfl⟩⟩ := hrel
  cases gk with
  | zero => exact absurd HA.out (by simp [rangeproof_powerQ.l0])
  | succ k1 =>
   have H := HA.out
   clear HA
   simp only [rangeproof_powerQ.l0] at H
   by_cases c3 : x1_1 > 0
   ·rw [if_pos c3] at H
    have c3b0 : decide (0 < x1_1) = true := decide_eq_true c3
    clear c3
    by_cases c4 : (Int.tmod x1_1 2) = 1
    ·rw [if_pos c4] at H
     have c4b0 : ((Int.tmod x1_1 2) == 1) = true := beq_iff_eq.mpr c4
     have c4b1 : ((Int.tmod x1_1 2) != 1) = false := bne_eq_false_iff_eq.mpr c4
     clear c4
     have H' := Aside0.mk H
     clear H
     go_wp2
     go_roundg k1
     case measure => have := HK1.out; omega
     case rel => exact ⟨(Int.tmod (wrap64 (x0_1 * x0_1)) 1073741789), (wrap64 (Int.tdiv x1_1 2)), (Int.tmod (wrap64 (x5_1 * x0_1)) 1073741789), (by first | rfl | (simp; done) | (simp [*]; done)), (by first | rfl | (simp; done) | (simp [*]; done)), (by first | rfl | (simp; done) | (simp [*]; done)), H', ⟨by have := HK1.out; omega⟩, by repeat (first | exact Drawn0.refl _ | apply Drawn0.step)⟩
    ·rw [if_neg c4] at H
     have c4b0 : ((Int.tmod x1_1 2) == 1) = false := beq_eq_false_iff_ne.mpr c4
     have c4b1 : ((Int.tmod x1_1 2) != 1) = true := bne_iff_ne.mpr c4
     have H' := Aside0.mk H
     clear H
     go_wp2
     go_roundg k1
     case measure => have := HK1.out; omega
     case rel => exact ⟨(Int.tmod (wrap64 (x0_1 * x0_1)) 1073741789), (wrap64 (Int.tdiv x1_1 2)), (x5_1), (by first | rfl | (simp; done) | (simp [*]; done)), (by first | rfl | (simp; done) | (simp [*]; done)), (by first | rfl | (simp; done) | (simp [*]; done)), H', ⟨by have := HK1.out; omega⟩, by repeat (first | exact Drawn0.refl _ | apply Drawn0.step)⟩
   ·rw [if_neg c3] at H
    have c3b0 : decide (0 < x1_1) = false := decide_eq_false c3
    clear c3
    obtain rfl := Option.some.inj H
    go_wp2
    go_ret
    exact ⟨by first | rfl | (simp; done) | (simp [*]; done), by repeat (first | exact Drawn0.refl _ | apply Drawn0.step)⟩

-- GIVEN BY A TEXT OF ITS OWN: function 12 (rangeproof_Extract)

end Go.Proofs.YtnlgnmlobklobaaDoor.PAll
