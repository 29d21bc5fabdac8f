-- Written by myprint.py over the kit's print.py (a printed text of this session's own make).
import Derived.Test.YtnlgnmlobklobaaDoorPAllx0
import Derived.Test.YtnlgnmlobklobaaDoorPAllx2
import Derived.Test.YtnlgnmlobklobaaDoorPAllx3
import Derived.Test.YtnlgnmlobklobaaDoorPAllx5
-- HALF the printed indentation
namespace Go.Proofs.YtnlgnmlobklobaaDoor.PAll
open Go.Proofs.YtnlgnmlobklobaaDoor.Stub Go.Proofs.YtnlgnmlobklobaaDoor.Com Go.Proofs.YtnlgnmlobklobaaDoor.Hash
open Go.RowKit Go.Proofs.YtnlgnmlobklobaaDoorW.PrintWords Go.Proofs.YtnlgnmlobklobaaDoorW.PrintLast Go.Proofs.YtnlgnmlobklobaaDoorW.PrintMore
attribute [local go_sem] max2_int min2_int max_two min_two max_three min_three max_four min_four   -- for this text's walks alone
set_option linter.unusedVariables false
set_option linter.unusedSimpArgs false

/-! ### wageofficelaw27_RangeproofComplete: function 4 -/
def wageofficelaw27_RangeproofComplete.j0 : Nat → Int → Bool → Int → Int → List (S25) → Int → Bool → Option (Bool)
 | 0, _, _, _, _, _, _, _ => none
 | k + 1, x0, x9, x10, x11, x12, x13, x43 => if x43 = true then (if x9 = true then (if x13 = 3 then (some ((x12.length : Int) == 0)) else (some false)) else (some false)) else ((commitment_Commit.f x0 x11).bind fun bt278 => (if x9 = true then (if x13 = 0 then (if bt278.2 = 0 then ((rangeproof_Verify.f k bt278.1 x10 x12).bind fun t280 => (some t280)) else (some false)) else (some false)) else (some false)))
def wageofficelaw27_RangeproofComplete.f (k : Nat) (a0 : Int) (a1 : Int) (a2 : Int) (a3 : ByteArray) : Option (Bool) := (wageofficelaw27_head.f k).bind fun t273 => (if (a3.size : Int) > 60 then (some t273) else ((rangeproof_Prove.f k a0 (Int.tmod (wrap64 (a1)) 1073741789) (wrap64 ((Int.tmod (wrap64 (a2)) 28) + 1)) a3).bind fun bt274 => (if a0 < 0 then (wageofficelaw27_RangeproofComplete.j0 k a0 t273 (wrap64 ((Int.tmod (wrap64 (a2)) 28) + 1)) (Int.tmod (wrap64 (a1)) 1073741789) bt274.1 bt274.2 true) else (if 0 ≤ (wrap64 ((Int.tmod (wrap64 (a2)) 28) + 1)) then (wageofficelaw27_RangeproofComplete.j0 k a0 t273 (wrap64 ((Int.tmod (wrap64 (a2)) 28) + 1)) (Int.tmod (wrap64 (a1)) 1073741789) bt274.1 bt274.2 (decide (a0 ≥ (shl .i64 1 (wrap64 ((Int.tmod (wrap64 (a2)) 28) + 1)))))) else (none)))))
theorem wageofficelaw27_RangeproofComplete.mono_l : ∀ k, (∀ y0 y1 y2 y3 y4 y5 y6, LeO (wageofficelaw27_RangeproofComplete.j0 k y0 y1 y2 y3 y4 y5 y6) (wageofficelaw27_RangeproofComplete.j0 (k + 1) y0 y1 y2 y3 y4 y5 y6))
 | 0 => fun _ _ _ _ _ _ _ r h => by simp [wageofficelaw27_RangeproofComplete.j0] at h
 | k + 1 => by
  have ih0 := wageofficelaw27_RangeproofComplete.mono_l k
  ·intro y0 y1 y2 y3 y4 y5 y6
   unfold wageofficelaw27_RangeproofComplete.j0
   repeat' first
   | (with_reducible exact ih0 _ _ _ _ _ _ _)
   | (with_reducible exact rangeproof_Prove.mono _ _ _ _ _)
   | (with_reducible exact rangeproof_Verify.mono _ _ _ _)
   | (with_reducible exact wageofficelaw27_head.mono _)
   | (with_reducible exact LeO.refl _)
   | (with_reducible exact LeO.none _)
   | (with_reducible refine LeO.ite ?_ ?_)
   | (with_reducible refine LeO.bind ?_ (fun _ => ?_))
   | exact ih0 _ _ _ _ _ _ _
   | exact rangeproof_Prove.mono _ _ _ _ _
   | exact rangeproof_Verify.mono _ _ _ _
   | exact wageofficelaw27_head.mono _
   | exact LeO.none _
   | refine LeO.ite ?_ ?_
   | refine LeO.bind ?_ (fun _ => ?_)
theorem wageofficelaw27_RangeproofComplete.mono : ∀ a0 a1 a2 a3 k, LeO (wageofficelaw27_RangeproofComplete.f k a0 a1 a2 a3) (wageofficelaw27_RangeproofComplete.f (k + 1) a0 a1 a2 a3) := by
 intro a0 a1 a2 a3 k
 have ih0 := wageofficelaw27_RangeproofComplete.mono_l k
 unfold wageofficelaw27_RangeproofComplete.f
 repeat' first
   | (with_reducible exact ih0 _ _ _ _ _ _ _)
   | (with_reducible exact rangeproof_Prove.mono _ _ _ _ _)
   | (with_reducible exact rangeproof_Verify.mono _ _ _ _)
   | (with_reducible exact wageofficelaw27_head.mono _)
   | (with_reducible exact LeO.refl _)
   | (with_reducible exact LeO.none _)
   | (with_reducible refine LeO.ite ?_ ?_)
   | (with_reducible refine LeO.bind ?_ (fun _ => ?_))
   | exact ih0 _ _ _ _ _ _ _
   | exact rangeproof_Prove.mono _ _ _ _ _
   | exact rangeproof_Verify.mono _ _ _ _
   | exact wageofficelaw27_head.mono _
   | exact LeO.none _
   | refine LeO.ite ?_ ?_
   | refine LeO.bind ?_ (fun _ => ?_)
set_option maxHeartbeats 8000000 in
set_option maxRecDepth 100000 in
theorem wageofficelaw27_RangeproofComplete.calls (k : Nat) (a0 : Int) (a1 : Int) (a2 : Int) (a3 : ByteArray) (r : Bool) (w : World) (hRT0 : r = true) (h : wageofficelaw27_RangeproofComplete.f k a0 a1 a2 a3 = some r) (hTGen0 : TabGen w) (hTTen0 : TabTen w) :
  Calls Tryd.prog 4 #[.int .i64 a0, .int .u32 a1, .int .u8 a2, .string a3] w fun e w' => e = .returned (.bool r) ∧ Below w.heap.size w w' := by
 have hTGen := Aside0.mk hTGen0
 clear hTGen0
 have hTTen := Aside0.mk hTTen0
 clear hTTen0
 have HB := Aside0.mk (Below.refl w.heap.size w)
 have H : ((wageofficelaw27_head.f k).bind fun t273 => (if (a3.size : Int) > 60 then (some t273) else ((rangeproof_Prove.f k a0 (Int.tmod (wrap64 (a1)) 1073741789) (wrap64 ((Int.tmod (wrap64 (a2)) 28) + 1)) a3).bind fun bt274 => (if a0 < 0 then (wageofficelaw27_RangeproofComplete.j0 k a0 t273 (wrap64 ((Int.tmod (wrap64 (a2)) 28) + 1)) (Int.tmod (wrap64 (a1)) 1073741789) bt274.1 bt274.2 true) else (if 0 ≤ (wrap64 ((Int.tmod (wrap64 (a2)) 28) + 1)) then (wageofficelaw27_RangeproofComplete.j0 k a0 t273 (wrap64 ((Int.tmod (wrap64 (a2)) 28) + 1)) (Int.tmod (wrap64 (a1)) 1073741789) bt274.1 bt274.2 (decide (a0 ≥ (shl .i64 1 (wrap64 ((Int.tmod (wrap64 (a2)) 28) + 1)))))) else (none)))))) = some r := h
 clear h
 have hRT := Aside0.mk hRT0
 clear hRT0
 replace H := Option.bind_eq_some_iff.mp H
 obtain ⟨t273, A50, H⟩ := H
 replace H : (if (a3.size : Int) > 60 then (some t273) else ((rangeproof_Prove.f k a0 (Int.tmod (wrap64 (a1)) 1073741789) (wrap64 ((Int.tmod (wrap64 (a2)) 28) + 1)) a3).bind fun bt274 => (if a0 < 0 then (wageofficelaw27_RangeproofComplete.j0 k a0 t273 (wrap64 ((Int.tmod (wrap64 (a2)) 28) + 1)) (Int.tmod (wrap64 (a1)) 1073741789) bt274.1 bt274.2 true) else (if 0 ≤ (wrap64 ((Int.tmod (wrap64 (a2)) 28) + 1)) then (wageofficelaw27_RangeproofComplete.j0 k a0 t273 (wrap64 ((Int.tmod (wrap64 (a2)) 28) + 1)) (Int.tmod (wrap64 (a1)) 1073741789) bt274.1 bt274.2 (decide (a0 ≥ (shl .i64 1 (wrap64 ((Int.tmod (wrap64 (a2)) 28) + 1)))))) else (none))))) = some r := H
 have A5 := Aside0.mk A50
 clear A50
 by_cases c6 : (a3.size : Int) > 60
 ·rw [if_pos c6] at H
  have c6b0 : decide (60 < (a3.size : Int)) = true := decide_eq_true c6
  have c6b1 : decide (60 < a3.size) = true := decide_eq_true (by omega)
  clear c6
  obtain rfl := Option.some.inj H
  go_enter Tryd.func4, Tryd.ntmps4
  go_wp2_with (first | ((with_reducible refine gate_callee (f := 9) rfl ?_); refine goesL_ (some 16) rfl rfl Tryd.func9 (by kernel_rfl) rfl #[] rfl (by (try simp only [List.map_toArray, List.map_cons, List.map_nil]); first | done | rfl | (simp only [List.length_drop, List.length_take]; rfl)) ?_; (with_reducible refine (wageofficelaw27_head.calls k  t273 _ A5.out (TabGen.below hTGen.out (by repeat (first | exact HB.out | exact Below.refl _ _ | apply below_alloc | apply pw_below_drewN | apply below_drew1 | apply below_drew))) (TabTen.below hTTen.out (by repeat (first | exact HB.out | exact Below.refl _ _ | apply below_alloc | apply pw_below_drewN | apply below_drew1 | apply below_drew)))).mono ?_); rintro e w7 ⟨rfl, hb⟩; refine ⟨_, rfl, ?_⟩; have n0_ := Aside0.mk (below_step (by repeat (first | (with_reducible first | exact HB.out | apply below_alloc | apply pw_below_drewN | apply below_drew1) | exact HB.out)) hb); clear HB; have HB := n0_; clear n0_; (try clear hb); (try clear hb2); (try clear hk); (try clear hi)))
  go_ret
  exact ⟨by first | rfl | (simp [errW_none, errW_some] <;> rfl) | (simp [*, errW_none, errW_some] <;> rfl), by repeat (first | (with_reducible first | exact HB.out | apply below_alloc | apply pw_below_drewN | apply below_drew1) | exact HB.out)⟩
 ·rw [if_neg c6] at H
  have c6b0 : decide (60 < (a3.size : Int)) = false := decide_eq_false c6
  have c6b1 : decide (60 < a3.size) = false := decide_eq_false (by omega)
  clear c6
  replace H := Option.bind_eq_some_iff.mp H
  obtain ⟨⟨t274, t275⟩, A80, H⟩ := H
  replace H : (if a0 < 0 then (wageofficelaw27_RangeproofComplete.j0 k a0 t273 (wrap64 ((Int.tmod (wrap64 (a2)) 28) + 1)) (Int.tmod (wrap64 (a1)) 1073741789) t274 t275 true) else (if 0 ≤ (wrap64 ((Int.tmod (wrap64 (a2)) 28) + 1)) then (wageofficelaw27_RangeproofComplete.j0 k a0 t273 (wrap64 ((Int.tmod (wrap64 (a2)) 28) + 1)) (Int.tmod (wrap64 (a1)) 1073741789) t274 t275 (decide (a0 ≥ (shl .i64 1 (wrap64 ((Int.tmod (wrap64 (a2)) 28) + 1)))))) else (none))) = some r := H
  have A8 := Aside0.mk A80
  clear A80
  have HC9 := Aside0.mk H
  clear H
  go_enter Tryd.func4, Tryd.ntmps4
  go_upto_region 7 with (first | ((with_reducible refine gate_callee (f := 9) rfl ?_); refine goesL_ (some 16) rfl rfl Tryd.func9 (by kernel_rfl) rfl #[] rfl (by (try simp only [List.map_toArray, List.map_cons, List.map_nil]); first | done | rfl | (simp only [List.length_drop, List.length_take]; rfl)) ?_; (with_reducible refine (wageofficelaw27_head.calls k  t273 _ A5.out (TabGen.below hTGen.out (by repeat (first | exact HB.out | exact Below.refl _ _ | apply below_alloc | apply pw_below_drewN | apply below_drew1 | apply below_drew))) (TabTen.below hTTen.out (by repeat (first | exact HB.out | exact Below.refl _ _ | apply below_alloc | apply pw_below_drewN | apply below_drew1 | apply below_drew)))).mono ?_); rintro e w10 ⟨rfl, hb⟩; refine ⟨_, rfl, ?_⟩; have n0_ := Aside0.mk (below_step (by repeat (first | (with_reducible first | exact HB.out | apply below_alloc | apply pw_below_drewN | apply below_drew1) | exact HB.out)) hb); clear HB; have HB := n0_; clear n0_; (try clear hb); (try clear hb2); (try clear hk); (try clear hi)) | ((with_reducible refine gate_callee (f := 10) rfl ?_); refine goesL_ (some 33) rfl rfl Tryd.func10 (by kernel_rfl) rfl #[.int .i64 a0, .int .i64 (Int.tmod (wrap64 (a1)) 1073741789), .int .i64 (wrap64 ((Int.tmod (wrap64 (a2)) 28) + 1)), .string a3] rfl (by (try simp only [List.map_toArray, List.map_cons, List.map_nil]); first | done | rfl | (simp only [List.length_drop, List.length_take]; rfl)) ?_; (with_reducible refine (rangeproof_Prove.calls k a0 (Int.tmod (wrap64 (a1)) 1073741789) (wrap64 ((Int.tmod (wrap64 (a2)) 28) + 1)) a3 t274 t275 _ A8.out (TabGen.below hTGen.out (by repeat (first | exact HB.out | exact Below.refl _ _ | apply below_alloc | apply pw_below_drewN | apply below_drew1 | apply below_drew))) (TabTen.below hTTen.out (by repeat (first | exact HB.out | exact Below.refl _ _ | apply below_alloc | apply pw_below_drewN | apply below_drew1 | apply below_drew)))).mono ?_); rintro e w11 ⟨v276, rfl, ho0, hb⟩; refine ⟨_, rfl, ?_⟩; have n0_ := Aside0.mk (Kd.R_lower ho0 (below_size (by repeat (first | (with_reducible first | exact HB.out | apply below_alloc | apply pw_below_drewN | apply below_drew1) | exact HB.out)))); have n1_ := Aside0.mk (below_step (by repeat (first | (with_reducible first | exact HB.out | apply below_alloc | apply pw_below_drewN | apply below_drew1) | exact HB.out)) hb); clear HB; have HO277 := n0_; have HB := n1_; clear n0_ n1_; (try clear hb); (try clear hb2); (try clear hk); (try clear hi); (try clear ho0)))
  (try simp only [Act.put, List.setIfInBounds_toArray, List.set_cons_zero, List.set_cons_succ])
  go_cut [43] (fun v43 wc => ∃ (kq : Nat) (x43_8 : Bool), v43 = .bool x43_8 ∧ Aside0 (wageofficelaw27_RangeproofComplete.j0 kq a0 t273 (wrap64 ((Int.tmod (wrap64 (a2)) 28) + 1)) (Int.tmod (wrap64 (a1)) 1073741789) t274 t275 x43_8 = some r) ∧ Aside0 (kq ≤ k) ∧ Aside0 (Kd.R k25 25 wc w.heap.size (fun _ => True) v276 t274) ∧ Aside0 (Below w.heap.size w wc))
  case first =>
   have H := HC9.out
   clear HC9
   by_cases c12 : a0 < 0
   ·rw [if_pos c12] at H
    have c12b0 : decide (a0 < 0) = true := decide_eq_true c12
    clear c12
    (first | rw [c12b0] | (simp only [i64_w, i32_w]; rw [c12b0]) | skip)
    have H' := Aside0.mk H
    clear H
    go_wp2
    go_meet
    case rel => exact ⟨_, (true), (by first | rfl | (simp; done) | (simp [*]; done)), H', ⟨by first | omega | exact Nat.le_refl _⟩, ⟨by (with_reducible repeat (first | apply Kd.R_alloc | apply Kd.R_drewN | apply Kd.R_drew)); exact HO277.out⟩, ⟨by repeat (first | (with_reducible first | exact HB.out | apply below_alloc | apply pw_below_drewN | apply below_drew1) | exact HB.out)⟩⟩
   ·rw [if_neg c12] at H
    have c12b0 : decide (a0 < 0) = false := decide_eq_false c12
    clear c12
    (first | rw [c12b0] | (simp only [i64_w, i32_w]; rw [c12b0]) | skip)
    obtain ⟨ji13, hji13⟩ : ∃ j_ : Int, (wrap64 ((Int.tmod (wrap64 (a2)) 28) + 1)) = j_ := ⟨_, rfl⟩
    replace H : (if 0 ≤ (ji13) then (wageofficelaw27_RangeproofComplete.j0 k a0 t273 ji13 (Int.tmod (wrap64 (a1)) 1073741789) t274 t275 (decide (a0 ≥ (shl .i64 1 (ji13))))) else (none)) = some r := by first | (rw [hji13] at H; exact H) | (simp only [hji13] at H ⊢; exact H)
    have hji13w : (IntKind.i64.wrap ((Int.tmod (wrap64 (a2)) 28) + 1)) = ji13 := (i64_w _).trans hji13
    by_cases c14 : 0 ≤ (ji13)
    ·rw [if_pos c14] at H
     have c14b0 := eq_true c14
     have c14b1 : decide (0 ≤ (ji13)) = true := decide_eq_true c14
     clear c14
     obtain ⟨ji15, hji15⟩ : ∃ j_ : Int, (shl .i64 1 (ji13)) = j_ := ⟨_, rfl⟩
     replace H : (wageofficelaw27_RangeproofComplete.j0 k a0 t273 ji13 (Int.tmod (wrap64 (a1)) 1073741789) t274 t275 (decide (a0 ≥ (ji15)))) = some r := by first | (rw [hji15] at H; exact H) | (simp only [hji15] at H ⊢; exact H)
     have hji15_ : (IntKind.i64.wrap (1 * 2 ^ min (ji13).toNat 64)) = ji15 := hji15
     have hji15z : (ji13) ≤ 64 → (IntKind.i64.wrap (1 * 2 ^ (ji13).toNat)) = ji15 := shl_small hji15
     have hji15u : (IntKind.i64.wrap (2 ^ min (ji13).toNat 64)) = ji15 := by have h_ := hji15_; rw [Int.one_mul] at h_; exact h_
     have hji15v : (ji13) ≤ 64 → (IntKind.i64.wrap (2 ^ (ji13).toNat)) = ji15 := fun hle_ => by have h_ := hji15z hle_; rw [Int.one_mul] at h_; exact h_
     have hji15y : (wrap64 (1 * 2 ^ min (ji13).toNat 64)) = ji15 := (i64_w _).symm.trans hji15_
     have hji15x : (ji13) ≤ 64 → (wrap64 (1 * 2 ^ (ji13).toNat)) = ji15 := fun h_ => (i64_w _).symm.trans (hji15z h_)
     have H' := Aside0.mk H
     clear H
     go_wp2
     (try subst hji13)
     go_meet
     case rel => exact ⟨_, (decide (a0 ≥ (ji15))), (by first | rfl | (simp; done) | (simp only [← hji15] <;> (first | rfl | simp)) | (simp [*]; done)), H', ⟨by first | omega | exact Nat.le_refl _⟩, ⟨by (with_reducible repeat (first | apply Kd.R_alloc | apply Kd.R_drewN | apply Kd.R_drew)); exact HO277.out⟩, ⟨by repeat (first | (with_reducible first | exact HB.out | apply below_alloc | apply pw_below_drewN | apply below_drew1) | exact HB.out)⟩⟩
    ·rw [if_neg c14] at H
     exact absurd H (by simp)
  case rest =>
   clear HC9
   try clear c1
   try clear p2
   try clear c4
   try clear c6
   try clear c6b0
   try clear c6b1
   try clear p6
   try clear c9
   try clear c10
   try clear c12
   try clear c12b0
   try clear c14
   try clear c14b0
   try clear c14b1
   obtain ⟨kq, x43_8, rfl, HA, HJ8, HO_12, HB⟩ := hcut
   cases kq with
   | zero => exact absurd HA.out (by simp [wageofficelaw27_RangeproofComplete.j0])
   | succ kj8 =>
    have H := HA.out
    clear HA
    simp only [wageofficelaw27_RangeproofComplete.j0] at H
    by_cases c16 : x43_8 = true
    ·subst c16
     have H1 : (if t273 = true then (if t275 = 3 then (some ((t274.length : Int) == 0)) else (some false)) else (some false)) = some r := by rw [if_pos rfl] at H; exact H
     clear H
     have H := H1
     clear H1
     by_cases c17 : t273 = true
     ·subst c17
      have H1 : (if t275 = 3 then (some ((t274.length : Int) == 0)) else (some false)) = some r := by rw [if_pos rfl] at H; exact H
      clear H
      have H := H1
      clear H1
      by_cases c18 : t275 = 3
      ·rw [if_pos c18] at H
       have c18b0 : (t275 == 3) = true := beq_iff_eq.mpr c18
       have c18b1 : (t275 != 3) = false := bne_eq_false_iff_eq.mpr c18
       clear c18
       obtain rfl := Option.some.inj H
       obtain ⟨Ao19, co19, eo19⟩ := Kd.R_slice HO_12.out
       subst eo19
       go_wp2
       go_ret
       exact ⟨by first | rfl | (simp [errW_none, errW_some] <;> rfl) | (simp [*, errW_none, errW_some] <;> rfl), by repeat (first | (with_reducible first | exact HB.out | apply below_alloc | apply pw_below_drewN | apply below_drew1) | exact HB.out)⟩
      ·rw [if_neg c18] at H
       have c18b0 : (t275 == 3) = false := beq_eq_false_iff_ne.mpr c18
       have c18b1 : (t275 != 3) = true := bne_iff_ne.mpr c18
       exact absurd (H.trans (congrArg some hRT.out)) (by simp)
     ·replace c17 := Bool.eq_false_iff.mpr c17
      subst c17
      have H1 : (some false) = some r := by rw [if_neg (show ¬ (false = true) by decide)] at H; exact H
      clear H
      have H := H1
      clear H1
      exact absurd (H.trans (congrArg some hRT.out)) (by simp)
    ·replace c16 := Bool.eq_false_iff.mpr c16
     subst c16
     have H1 : ((commitment_Commit.f a0 (Int.tmod (wrap64 (a1)) 1073741789)).bind fun bt278 => (if t273 = true then (if t275 = 0 then (if bt278.2 = 0 then ((rangeproof_Verify.f kj8 bt278.1 (wrap64 ((Int.tmod (wrap64 (a2)) 28) + 1)) t274).bind fun t280 => (some t280)) else (some false)) else (some false)) else (some false))) = some r := by rw [if_neg (show ¬ (false = true) by decide)] at H; exact H
     clear H
     have H := H1
     clear H1
     replace H := Option.bind_eq_some_iff.mp H
     obtain ⟨⟨t278, t279⟩, A200, H⟩ := H
     replace H : (if t273 = true then (if t275 = 0 then (if t279 = 0 then ((rangeproof_Verify.f kj8 t278 (wrap64 ((Int.tmod (wrap64 (a2)) 28) + 1)) t274).bind fun t280 => (some t280)) else (some false)) else (some false)) else (some false)) = some r := H
     have A20 := Aside0.mk A200
     clear A200
     by_cases c21 : t273 = true
     ·subst c21
      have H1 : (if t275 = 0 then (if t279 = 0 then ((rangeproof_Verify.f kj8 t278 (wrap64 ((Int.tmod (wrap64 (a2)) 28) + 1)) t274).bind fun t280 => (some t280)) else (some false)) else (some false)) = some r := by rw [if_pos rfl] at H; exact H
      clear H
      have H := H1
      clear H1
      by_cases c22 : t275 = 0
      ·rw [if_pos c22] at H
       have c22b0 : (t275 == 0) = true := beq_iff_eq.mpr c22
       have c22b1 : (t275 != 0) = false := bne_eq_false_iff_eq.mpr c22
       clear c22
       by_cases c23 : t279 = 0
       ·rw [if_pos c23] at H
        have c23b0 : (t279 == 0) = true := beq_iff_eq.mpr c23
        have c23b1 : (t279 != 0) = false := bne_eq_false_iff_eq.mpr c23
        clear c23
        replace H := Option.bind_eq_some_iff.mp H
        obtain ⟨t280, A240, H⟩ := H
        replace H : (some t280) = some r := H
        have A24 := Aside0.mk A240
        clear A240
        obtain rfl := Option.some.inj H
        go_wp2_with (first | ((with_reducible refine gate_callee (f := 17) rfl ?_); refine goesL_ (some 57) rfl rfl Tryd.func17 (by kernel_rfl) rfl #[.int .i64 a0, .int .i64 (Int.tmod (wrap64 (a1)) 1073741789)] rfl (by (try simp only [List.map_toArray, List.map_cons, List.map_nil]); first | done | rfl | (simp only [List.length_drop, List.length_take]; rfl)) ?_; (with_reducible refine (commitment_Commit.calls a0 (Int.tmod (wrap64 (a1)) 1073741789) t278 t279 _ A20.out (TabGen.below hTGen.out (by repeat (first | exact HB.out | exact Below.refl _ _ | apply below_alloc | apply pw_below_drewN | apply below_drew1 | apply below_drew)))).mono ?_); rintro e w25 ⟨rfl, hb⟩; refine ⟨_, rfl, ?_⟩; have n0_ := Aside0.mk (Kd.R_below (by (with_reducible repeat (first | apply Kd.R_alloc | apply Kd.R_drewN | apply Kd.R_drew)); exact HO_12.out) hb); have n1_ := Aside0.mk (below_step (by repeat (first | (with_reducible first | exact HB.out | apply below_alloc | apply pw_below_drewN | apply below_drew1) | exact HB.out)) hb); clear HO_12; clear HB; have HO_12 := n0_; have HB := n1_; clear n0_ n1_; (try clear hb); (try clear hb2); (try clear hk); (try clear hi); obtain ⟨Ao26, co26, eo26⟩ := Kd.R_slice HO_12.out; subst eo26) | (go_at_call 15; (with_reducible refine (rangeproof_Verify.calls kj8 t278 (wrap64 ((Int.tmod (wrap64 (a2)) 28) + 1)) _ _ t274 t280 _ ?side1 ?side2 A24.out (TabTen.below hTTen.out (by repeat (first | exact HB.out | exact Below.refl _ _ | apply below_alloc | apply pw_below_drewN | apply below_drew1 | apply below_drew)))).mono ?_); (case side1 => repeat (first | exact (Kd.R_reads' HO_12.out).2.2 | (with_reducible refine Kd.C_alloc ?_ _) | (with_reducible refine Kd.C_drewN ?_ _) | (with_reducible refine Kd.C_drew ?_))); (case side2 => exact (Kd.R_reads' HO_12.out).2.1); rintro e w27 ⟨rfl, hb⟩; have n0_ := Aside0.mk (Kd.R_below (by (with_reducible repeat (first | apply Kd.R_alloc | apply Kd.R_drewN | apply Kd.R_drew)); exact HO_12.out) hb); have n1_ := Aside0.mk (below_step (by repeat (first | (with_reducible first | exact HB.out | apply below_alloc | apply pw_below_drewN | apply below_drew1) | exact HB.out)) hb); clear HO_12; clear HB; have HO_12 := n0_; have HB := n1_; clear n0_ n1_; (try clear hb); (try clear hb2); (try clear hk); (try clear hi)))
        go_ret
        exact ⟨by first | rfl | (simp [errW_none, errW_some] <;> rfl) | (simp [*, errW_none, errW_some] <;> rfl), by repeat (first | (with_reducible first | exact HB.out | apply below_alloc | apply pw_below_drewN | apply below_drew1) | exact HB.out)⟩
       ·rw [if_neg c23] at H
        have c23b0 : (t279 == 0) = false := beq_eq_false_iff_ne.mpr c23
        have c23b1 : (t279 != 0) = true := bne_iff_ne.mpr c23
        exact absurd (H.trans (congrArg some hRT.out)) (by simp)
      ·rw [if_neg c22] at H
       have c22b0 : (t275 == 0) = false := beq_eq_false_iff_ne.mpr c22
       have c22b1 : (t275 != 0) = true := bne_iff_ne.mpr c22
       exact absurd (H.trans (congrArg some hRT.out)) (by simp)
     ·replace c21 := Bool.eq_false_iff.mpr c21
      subst c21
      have H1 : (some false) = some r := by rw [if_neg (show ¬ (false = true) by decide)] at H; exact H
      clear H
      have H := H1
      clear H1
      exact absurd (H.trans (congrArg some hRT.out)) (by simp)

/-- THE ONE PURE STATEMENT of wageofficelaw27_RangeproofComplete: yours. -/
def wageofficelaw27_RangeproofComplete.Pure : Prop := ∀ (a0 : Int) (a1 : Int) (a2 : Int) (a3 : ByteArray), (Lit.int .i64 a0).wf = true → (Lit.int .u32 a1).wf = true → (Lit.int .u8 a2).wf = true → a3.size ≤ 140737488351232 → ∃ k, wageofficelaw27_RangeproofComplete.f k a0 a1 a2 a3 = some true
-- NOT PRINTED: function 5 (wageofficelaw27_RangeproofReplies)

-- NOT PRINTED: function 6 (wageofficelaw27_RangeproofLengths)

end Go.Proofs.YtnlgnmlobklobaaDoor.PAll
