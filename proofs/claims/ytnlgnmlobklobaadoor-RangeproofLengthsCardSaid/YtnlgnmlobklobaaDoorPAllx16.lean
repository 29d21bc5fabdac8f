-- Written by ext.py out of a printed text (myprint.py over the kit's print.py).
import Derived.Test.YtnlgnmlobklobaaDoorPAllx0
import Derived.Test.YtnlgnmlobklobaaDoorPAllx2
import Derived.Test.YtnlgnmlobklobaaDoorPAllx3
import Derived.Test.YtnlgnmlobklobaaDoorPAllx5
namespace Go.Proofs.YtnlgnmlobklobaaDoor.PAll
open Go.Proofs.YtnlgnmlobklobaaDoor.Stub Go.Proofs.YtnlgnmlobklobaaDoor.Com Go.Proofs.YtnlgnmlobklobaaDoor.Hash
open Go.RowKit Go.Proofs.YtnlgnmlobklobaaDoorW.PrintWords Go.Proofs.YtnlgnmlobklobaaDoorW.PrintLast Go.Proofs.YtnlgnmlobklobaaDoorW.PrintMore
attribute [local go_sem] max2_int min2_int max_two min_two max_three min_three max_four min_four   -- for this text's walks alone
set_option linter.unusedVariables false
set_option linter.unusedSimpArgs false

/-! ### wageofficelaw27_RangeproofLengths: function 6 -/
theorem held7_ {w : World} {ad : Addr} {n : Nat} {xs : List S25} (h : Kd.C k25 w (some ad) n xs) (h1 : (0 : Int) < (n : Int)) : w.cell? ad = some (.int .i64 ((rd_T25 xs 0).f0)) ∧ w.cell? ⟨ad.block, ad.off + 1, none⟩ = some (.int .i64 ((rd_T25 xs 0).f1.f0)) ∧ w.cell? ⟨ad.block, ad.off + 2, none⟩ = some (.int .i64 ((rd_T25 xs 0).f1.f1)) ∧ w.cell? ⟨ad.block, ad.off + 3, none⟩ = some (.int .i64 ((rd_T25 xs 0).f2.f0)) ∧ w.cell? ⟨ad.block, ad.off + 4, none⟩ = some (.int .i64 ((rd_T25 xs 0).f2.f1)) ∧ w.cell? ⟨ad.block, ad.off + 5, none⟩ = some (.int .i64 ((rd_T25 xs 0).f3.f0)) ∧ w.cell? ⟨ad.block, ad.off + 6, none⟩ = some (.int .i64 ((rd_T25 xs 0).f3.f1)) := by
  obtain ⟨a, e, c0, c1, c2, c3, c4, c5, c6⟩ := at_T25 h 0 (by omega) h1
  obtain rfl := Option.some.inj e
  rw [show ((0 : Int)).toNat * 7 = 0 from rfl, Addr.add_zero'] at c0 c1 c2 c3 c4 c5 c6
  exact ⟨c0, c1, c2, c3, c4, c5, c6⟩
mutual
def wageofficelaw27_RangeproofLengths.j0 : Nat → Int → Bool → Int → List (S25) → Int → Bool → Option (Bool)
  | 0, _, _, _, _, _, _ => none
  | k + 1, x4, x11, x12, x15, x17, x65 => if x65 = true then (some false) else (if x12 = 0 then (none) else (wageofficelaw27_RangeproofLengths.l0 k x11 x12 x15 x17 (wrap64 ((Int.tmod (wrap64 (x4)) x12) + 1)) 1 0))
def wageofficelaw27_RangeproofLengths.l0 : Nat → Bool → Int → List (S25) → Int → Int → Int → Int → Option (Bool)
  | 0, _, _, _, _, _, _, _ => none
  | k + 1, x11, x12, x15, x17, x19, x20, x21 => if x21 < x19 then (if 0 ≤ x21 then (if x21 < (x15.length : Int) then ((commitment_Power.f ((rd_T25 x15 x21).f0) (shl .i64 1 x21)).bind fun t199 => (wageofficelaw27_RangeproofLengths.l0 k x11 x12 x15 x17 x19 (Int.tmod (wrap64 (x20 * t199)) 2147483579) (wrap64 (x21 + 1)))) else (none)) else (none)) else ((some (([] : List (S25)) : List (S25))).bind fun y200 => (if y200.length + x15.length < 2513169434916 then ((some (y200 ++ x15 : List (S25))).bind fun y203 => (if 0 < (x15.length : Int) then (if y203.length < 2513169434916 then (if x11 = true then (if 0 ≤ x19 then (if x19 ≤ (x15.length : Int) then ((rangeproof_Verify.f k x20 x19 (x15.take (x19 : Int).toNat)).bind fun t214 => (if t214 = true then ((rangeproof_Verify.f k x17 x12 (y203 ++ [(⟨(rd_T25 x15 0).f0, (⟨(rd_T25 x15 0).f1.f0, (rd_T25 x15 0).f1.f1⟩ : S23), (⟨(rd_T25 x15 0).f2.f0, (rd_T25 x15 0).f2.f1⟩ : S23), (⟨(rd_T25 x15 0).f3.f0, (rd_T25 x15 0).f3.f1⟩ : S23)⟩ : S25)])).bind fun t215 => (if t215 = true then (some false) else (if 0 ≤ (wrap64 (x12 - 1)) then (if (wrap64 (x12 - 1)) ≤ (x15.length : Int) then ((rangeproof_Verify.f k x17 x12 (x15.take ((wrap64 (x12 - 1)) : Int).toNat)).bind fun t220 => (some (!t220))) else (none)) else (none)))) else (some false))) else (none)) else (none)) else (some false)) else (none)) else (none))) else (none)))
end
def wageofficelaw27_RangeproofLengths.f (k : Nat) (a0 : Int) (a1 : Int) (a2 : Int) (a3 : ByteArray) (a4 : Int) : Option (Bool) := (wageofficelaw27_head.f k).bind fun t191 => (if (a3.size : Int) > 60 then (some t191) else (if 0 ≤ (wrap64 ((Int.tmod (wrap64 (a2)) 28) + 1)) then (if (shl .i64 1 (wrap64 ((Int.tmod (wrap64 (a2)) 28) + 1))) = 0 then (none) else ((rangeproof_Prove.f k (Int.tmod (wrap64 (a0)) (shl .i64 1 (wrap64 ((Int.tmod (wrap64 (a2)) 28) + 1)))) (Int.tmod (wrap64 (a1)) 1073741789) (wrap64 ((Int.tmod (wrap64 (a2)) 28) + 1)) a3).bind fun bt192 => ((commitment_Commit.f (Int.tmod (wrap64 (a0)) (shl .i64 1 (wrap64 ((Int.tmod (wrap64 (a2)) 28) + 1)))) (Int.tmod (wrap64 (a1)) 1073741789)).bind fun bt196 => (if bt192.2 = 0 then (if bt196.2 = 0 then (wageofficelaw27_RangeproofLengths.j0 k a4 t191 (wrap64 ((Int.tmod (wrap64 (a2)) 28) + 1)) bt192.1 bt196.1 ((bt192.1.length : Int) != (wrap64 ((Int.tmod (wrap64 (a2)) 28) + 1)))) else (wageofficelaw27_RangeproofLengths.j0 k a4 t191 (wrap64 ((Int.tmod (wrap64 (a2)) 28) + 1)) bt192.1 bt196.1 true)) else (wageofficelaw27_RangeproofLengths.j0 k a4 t191 (wrap64 ((Int.tmod (wrap64 (a2)) 28) + 1)) bt192.1 bt196.1 true))))) else (none)))
def wageofficelaw27_RangeproofLengths.T15 : Bool × List (List Nat × List Nat) := (true, [([], []), ([], []), ([], []), ([1, 2], [1, 2]), ([3], [3]), ([4], [4]), ([], []), ([6], [6]), ([5, 7], [5, 7]), ([0, 8], [0, 8]), ([9], [9]), ([10, 8, 0, 1, 2, 3, 4, 5, 6, 7, 8, 9, 10], [0, 10])])
def wageofficelaw27_RangeproofLengths.B15 : List Nat := [0, 0, 0, 6, 14, 30, 0, 64, 254, 511, 1023, 2047]
theorem wageofficelaw27_RangeproofLengths.tab15 : rtab .any (opsOf Tryd.f6 15) = wageofficelaw27_RangeproofLengths.T15 := by kernel_rfl
theorem wageofficelaw27_RangeproofLengths.bits15 : waitsOk wageofficelaw27_RangeproofLengths.T15.2 wageofficelaw27_RangeproofLengths.B15 = true := by kernel_rfl
set_option maxHeartbeats 8000000 in
set_option maxRecDepth 100000 in
theorem wageofficelaw27_RangeproofLengths.calls (k : Nat) (a0 : Int) (a1 : Int) (a2 : Int) (a3 : ByteArray) (a4 : Int) (r : Bool) (w : World) (hRT0 : r = true) (h : wageofficelaw27_RangeproofLengths.f k a0 a1 a2 a3 a4 = some r) (hTGen0 : TabGen w) (hTTen0 : TabTen w) :
    Calls Tryd.prog 6 #[.int .u32 a0, .int .u32 a1, .int .u8 a2, .string a3, .int .u8 a4] w fun e w' => e = .returned (.bool r) ∧ Below w.heap.size w w' := by
  have hTGen := Aside0.mk hTGen0
  clear hTGen0
  have hTTen := Aside0.mk hTTen0
  clear hTTen0
  have hu25 := Tryd.underlying25
  have HB := Aside0.mk (Below.refl w.heap.size w)
  have H : ((wageofficelaw27_head.f k).bind fun t191 => (if (a3.size : Int) > 60 then (some t191) else (if 0 ≤ (wrap64 ((Int.tmod (wrap64 (a2)) 28) + 1)) then (if (shl .i64 1 (wrap64 ((Int.tmod (wrap64 (a2)) 28) + 1))) = 0 then (none) else ((rangeproof_Prove.f k (Int.tmod (wrap64 (a0)) (shl .i64 1 (wrap64 ((Int.tmod (wrap64 (a2)) 28) + 1)))) (Int.tmod (wrap64 (a1)) 1073741789) (wrap64 ((Int.tmod (wrap64 (a2)) 28) + 1)) a3).bind fun bt192 => ((commitment_Commit.f (Int.tmod (wrap64 (a0)) (shl .i64 1 (wrap64 ((Int.tmod (wrap64 (a2)) 28) + 1)))) (Int.tmod (wrap64 (a1)) 1073741789)).bind fun bt196 => (if bt192.2 = 0 then (if bt196.2 = 0 then (wageofficelaw27_RangeproofLengths.j0 k a4 t191 (wrap64 ((Int.tmod (wrap64 (a2)) 28) + 1)) bt192.1 bt196.1 ((bt192.1.length : Int) != (wrap64 ((Int.tmod (wrap64 (a2)) 28) + 1)))) else (wageofficelaw27_RangeproofLengths.j0 k a4 t191 (wrap64 ((Int.tmod (wrap64 (a2)) 28) + 1)) bt192.1 bt196.1 true)) else (wageofficelaw27_RangeproofLengths.j0 k a4 t191 (wrap64 ((Int.tmod (wrap64 (a2)) 28) + 1)) bt192.1 bt196.1 true))))) else (none)))) = some r := h
  clear h
  have hRT := Aside0.mk hRT0
  clear hRT0
  replace H := Option.bind_eq_some_iff.mp H
  obtain ⟨t191, A60, H⟩ := H
  replace H : (if (a3.size : Int) > 60 then (some t191) else (if 0 ≤ (wrap64 ((Int.tmod (wrap64 (a2)) 28) + 1)) then (if (shl .i64 1 (wrap64 ((Int.tmod (wrap64 (a2)) 28) + 1))) = 0 then (none) else ((rangeproof_Prove.f k (Int.tmod (wrap64 (a0)) (shl .i64 1 (wrap64 ((Int.tmod (wrap64 (a2)) 28) + 1)))) (Int.tmod (wrap64 (a1)) 1073741789) (wrap64 ((Int.tmod (wrap64 (a2)) 28) + 1)) a3).bind fun bt192 => ((commitment_Commit.f (Int.tmod (wrap64 (a0)) (shl .i64 1 (wrap64 ((Int.tmod (wrap64 (a2)) 28) + 1)))) (Int.tmod (wrap64 (a1)) 1073741789)).bind fun bt196 => (if bt192.2 = 0 then (if bt196.2 = 0 then (wageofficelaw27_RangeproofLengths.j0 k a4 t191 (wrap64 ((Int.tmod (wrap64 (a2)) 28) + 1)) bt192.1 bt196.1 ((bt192.1.length : Int) != (wrap64 ((Int.tmod (wrap64 (a2)) 28) + 1)))) else (wageofficelaw27_RangeproofLengths.j0 k a4 t191 (wrap64 ((Int.tmod (wrap64 (a2)) 28) + 1)) bt192.1 bt196.1 true)) else (wageofficelaw27_RangeproofLengths.j0 k a4 t191 (wrap64 ((Int.tmod (wrap64 (a2)) 28) + 1)) bt192.1 bt196.1 true))))) else (none))) = some r := H
  have A6 := Aside0.mk A60
  clear A60
  by_cases c7 : (a3.size : Int) > 60
  · rw [if_pos c7] at H
    have c7b0 : decide (60 < (a3.size : Int)) = true := decide_eq_true c7
    have c7b1 : decide (60 < a3.size) = true := decide_eq_true (by omega)
    clear c7
    obtain rfl := Option.some.inj H
    go_enter Tryd.func6, Tryd.ntmps6
    go_wp2_with (first | ((with_reducible refine gate_callee (f := 9) rfl ?_); refine goesL_ (some 23) rfl rfl Tryd.func9 (by kernel_rfl) rfl #[] rfl (by (try simp only [List.map_toArray, List.map_cons, List.map_nil]); first | done | rfl | (simp only [List.length_drop, List.length_take]; rfl)) ?_; (with_reducible refine (wageofficelaw27_head.calls k  t191 _ A6.out (TabGen.below hTGen.out (by repeat (first | exact HB.out | exact Below.refl _ _ | apply below_alloc | apply pw_below_drewN | apply below_drew1 | apply below_drew))) (TabTen.below hTTen.out (by repeat (first | exact HB.out | exact Below.refl _ _ | apply below_alloc | apply pw_below_drewN | apply below_drew1 | apply below_drew)))).mono ?_); rintro e w8 ⟨rfl, hb⟩; refine ⟨_, rfl, ?_⟩; have n0_ := Aside0.mk (below_step (by repeat (first | (with_reducible first | exact HB.out | apply below_alloc | apply pw_below_drewN | apply below_drew1) | exact HB.out)) hb); clear HB; have HB := n0_; clear n0_; (try clear hb); (try clear hb2); (try clear hk); (try clear hi)))
    go_ret
    exact ⟨by first | rfl | (simp [errW_none, errW_some] <;> rfl) | (simp [*, errW_none, errW_some] <;> rfl), by repeat (first | (with_reducible first | exact HB.out | apply below_alloc | apply pw_below_drewN | apply below_drew1) | exact HB.out)⟩
  · rw [if_neg c7] at H
    have c7b0 : decide (60 < (a3.size : Int)) = false := decide_eq_false c7
    have c7b1 : decide (60 < a3.size) = false := decide_eq_false (by omega)
    clear c7
    obtain ⟨ji9, hji9⟩ : ∃ j_ : Int, (wrap64 ((Int.tmod (wrap64 (a2)) 28) + 1)) = j_ := ⟨_, rfl⟩
    replace H : (if 0 ≤ (ji9) then (if (shl .i64 1 (ji9)) = 0 then (none) else ((rangeproof_Prove.f k (Int.tmod (wrap64 (a0)) (shl .i64 1 (ji9))) (Int.tmod (wrap64 (a1)) 1073741789) (ji9) a3).bind fun bt192 => ((commitment_Commit.f (Int.tmod (wrap64 (a0)) (shl .i64 1 (ji9))) (Int.tmod (wrap64 (a1)) 1073741789)).bind fun bt196 => (if bt192.2 = 0 then (if bt196.2 = 0 then (wageofficelaw27_RangeproofLengths.j0 k a4 t191 ji9 bt192.1 bt196.1 ((bt192.1.length : Int) != (ji9))) else (wageofficelaw27_RangeproofLengths.j0 k a4 t191 ji9 bt192.1 bt196.1 true)) else (wageofficelaw27_RangeproofLengths.j0 k a4 t191 ji9 bt192.1 bt196.1 true))))) else (none)) = some r := by first | (rw [hji9] at H; exact H) | (simp only [hji9] at H ⊢; exact H)
    (try rw [hji9] at A6)
    have hji9w : (IntKind.i64.wrap ((Int.tmod (wrap64 (a2)) 28) + 1)) = ji9 := (i64_w _).trans hji9
    by_cases c10 : 0 ≤ (ji9)
    · rw [if_pos c10] at H
      have c10b0 := eq_true c10
      have c10b1 : decide (0 ≤ (ji9)) = true := decide_eq_true c10
      clear c10
      obtain ⟨ji11, hji11⟩ : ∃ j_ : Int, (shl .i64 1 (ji9)) = j_ := ⟨_, rfl⟩
      replace H : (if (ji11) = 0 then (none) else ((rangeproof_Prove.f k (Int.tmod (wrap64 (a0)) (ji11)) (Int.tmod (wrap64 (a1)) 1073741789) (ji9) a3).bind fun bt192 => ((commitment_Commit.f (Int.tmod (wrap64 (a0)) (ji11)) (Int.tmod (wrap64 (a1)) 1073741789)).bind fun bt196 => (if bt192.2 = 0 then (if bt196.2 = 0 then (wageofficelaw27_RangeproofLengths.j0 k a4 t191 ji9 bt192.1 bt196.1 ((bt192.1.length : Int) != (ji9))) else (wageofficelaw27_RangeproofLengths.j0 k a4 t191 ji9 bt192.1 bt196.1 true)) else (wageofficelaw27_RangeproofLengths.j0 k a4 t191 ji9 bt192.1 bt196.1 true))))) = some r := by first | (rw [hji11] at H; exact H) | (simp only [hji11] at H ⊢; exact H)
      (try rw [hji11] at A6)
      have hji11_ : (IntKind.i64.wrap (1 * 2 ^ min (ji9).toNat 64)) = ji11 := hji11
      have hji11z : (ji9) ≤ 64 → (IntKind.i64.wrap (1 * 2 ^ (ji9).toNat)) = ji11 := shl_small hji11
      have hji11u : (IntKind.i64.wrap (2 ^ min (ji9).toNat 64)) = ji11 := by have h_ := hji11_; rw [Int.one_mul] at h_; exact h_
      have hji11v : (ji9) ≤ 64 → (IntKind.i64.wrap (2 ^ (ji9).toNat)) = ji11 := fun hle_ => by have h_ := hji11z hle_; rw [Int.one_mul] at h_; exact h_
      have hji11y : (wrap64 (1 * 2 ^ min (ji9).toNat 64)) = ji11 := (i64_w _).symm.trans hji11_
      have hji11x : (ji9) ≤ 64 → (wrap64 (1 * 2 ^ (ji9).toNat)) = ji11 := fun h_ => (i64_w _).symm.trans (hji11z h_)
      by_cases c12 : (ji11) = 0
      · rw [if_pos c12] at H
        exact absurd H (by simp)
      · rw [if_neg c12] at H
        have c12b0 : ((ji11) == 0) = false := beq_eq_false_iff_ne.mpr c12
        have c12b1 : ((ji11) != 0) = true := bne_iff_ne.mpr c12
        replace H := Option.bind_eq_some_iff.mp H
        obtain ⟨⟨t192, t193⟩, A130, H⟩ := H
        replace H : ((commitment_Commit.f (Int.tmod (wrap64 (a0)) (ji11)) (Int.tmod (wrap64 (a1)) 1073741789)).bind fun bt196 => (if t193 = 0 then (if bt196.2 = 0 then (wageofficelaw27_RangeproofLengths.j0 k a4 t191 ji9 t192 bt196.1 ((t192.length : Int) != (ji9))) else (wageofficelaw27_RangeproofLengths.j0 k a4 t191 ji9 t192 bt196.1 true)) else (wageofficelaw27_RangeproofLengths.j0 k a4 t191 ji9 t192 bt196.1 true))) = some r := H
        have A13 := Aside0.mk A130
        clear A130
        replace H := Option.bind_eq_some_iff.mp H
        obtain ⟨⟨t196, t197⟩, A140, H⟩ := H
        replace H : (if t193 = 0 then (if t197 = 0 then (wageofficelaw27_RangeproofLengths.j0 k a4 t191 ji9 t192 t196 ((t192.length : Int) != (ji9))) else (wageofficelaw27_RangeproofLengths.j0 k a4 t191 ji9 t192 t196 true)) else (wageofficelaw27_RangeproofLengths.j0 k a4 t191 ji9 t192 t196 true)) = some r := H
        have A14 := Aside0.mk A140
        clear A140
        have HC15 := Aside0.mk H
        clear H
        go_enter Tryd.func6, Tryd.ntmps6
        go_upto_region 8 with (first | ((with_reducible refine gate_callee (f := 9) rfl ?_); refine goesL_ (some 23) rfl rfl Tryd.func9 (by kernel_rfl) rfl #[] rfl (by (try simp only [List.map_toArray, List.map_cons, List.map_nil]); first | done | rfl | (simp only [List.length_drop, List.length_take]; rfl)) ?_; (with_reducible refine (wageofficelaw27_head.calls k  t191 _ A6.out (TabGen.below hTGen.out (by repeat (first | exact HB.out | exact Below.refl _ _ | apply below_alloc | apply pw_below_drewN | apply below_drew1 | apply below_drew))) (TabTen.below hTTen.out (by repeat (first | exact HB.out | exact Below.refl _ _ | apply below_alloc | apply pw_below_drewN | apply below_drew1 | apply below_drew)))).mono ?_); rintro e w16 ⟨rfl, hb⟩; refine ⟨_, rfl, ?_⟩; have n0_ := Aside0.mk (below_step (by repeat (first | (with_reducible first | exact HB.out | apply below_alloc | apply pw_below_drewN | apply below_drew1) | exact HB.out)) hb); clear HB; have HB := n0_; clear n0_; (try clear hb); (try clear hb2); (try clear hk); (try clear hi)) | ((with_reducible refine gate_callee (f := 10) rfl ?_); refine goesL_ (some 45) rfl rfl Tryd.func10 (by kernel_rfl) rfl #[.int .i64 (Int.tmod (wrap64 (a0)) (ji11)), .int .i64 (Int.tmod (wrap64 (a1)) 1073741789), .int .i64 ji9, .string a3] rfl (by (try simp only [List.map_toArray, List.map_cons, List.map_nil]); first | done | (simp only [hji11, hji9]; rfl) | rfl | (simp only [List.length_drop, List.length_take]; rfl)) ?_; (with_reducible refine (rangeproof_Prove.calls k (Int.tmod (wrap64 (a0)) (ji11)) (Int.tmod (wrap64 (a1)) 1073741789) ji9 a3 t192 t193 _ A13.out (TabGen.below hTGen.out (by repeat (first | exact HB.out | exact Below.refl _ _ | apply below_alloc | apply pw_below_drewN | apply below_drew1 | apply below_drew))) (TabTen.below hTTen.out (by repeat (first | exact HB.out | exact Below.refl _ _ | apply below_alloc | apply pw_below_drewN | apply below_drew1 | apply below_drew)))).mono ?_); rintro e w17 ⟨v194, rfl, ho0, hb⟩; refine ⟨_, rfl, ?_⟩; have n0_ := Aside0.mk (Kd.R_lower ho0 (below_size (by repeat (first | (with_reducible first | exact HB.out | apply below_alloc | apply pw_below_drewN | apply below_drew1) | exact HB.out)))); have n1_ := Aside0.mk (below_step (by repeat (first | (with_reducible first | exact HB.out | apply below_alloc | apply pw_below_drewN | apply below_drew1) | exact HB.out)) hb); clear HB; have HO195 := n0_; have HB := n1_; clear n0_ n1_; (try clear hb); (try clear hb2); (try clear hk); (try clear hi); (try clear ho0)) | ((with_reducible refine gate_callee (f := 17) rfl ?_); refine goesL_ (some 51) rfl rfl Tryd.func17 (by kernel_rfl) rfl #[.int .i64 (Int.tmod (wrap64 (a0)) (ji11)), .int .i64 (Int.tmod (wrap64 (a1)) 1073741789)] rfl (by (try simp only [List.map_toArray, List.map_cons, List.map_nil]); first | done | (simp only [hji11]; rfl) | rfl | (simp only [List.length_drop, List.length_take]; rfl)) ?_; (with_reducible refine (commitment_Commit.calls (Int.tmod (wrap64 (a0)) (ji11)) (Int.tmod (wrap64 (a1)) 1073741789) t196 t197 _ A14.out (TabGen.below hTGen.out (by repeat (first | exact HB.out | exact Below.refl _ _ | apply below_alloc | apply pw_below_drewN | apply below_drew1 | apply below_drew)))).mono ?_); rintro e w18 ⟨rfl, hb⟩; refine ⟨_, rfl, ?_⟩; have n0_ := Aside0.mk (Kd.R_below (by (with_reducible repeat (first | apply Kd.R_alloc | apply Kd.R_drewN | apply Kd.R_drew)); exact HO195.out) hb); have n1_ := Aside0.mk (below_step (by repeat (first | (with_reducible first | exact HB.out | apply below_alloc | apply pw_below_drewN | apply below_drew1) | exact HB.out)) hb); clear HO195; clear HB; have HO195 := n0_; have HB := n1_; clear n0_ n1_; (try clear hb); (try clear hb2); (try clear hk); (try clear hi)))
        (try simp only [Act.put, List.setIfInBounds_toArray, List.set_cons_zero, List.set_cons_succ])
        go_cut [65] (fun v65 wc => ∃ (kq : Nat) (x65_14 : Bool), v65 = .bool x65_14 ∧ Aside0 (wageofficelaw27_RangeproofLengths.j0 kq a4 t191 ji9 t192 t196 x65_14 = some r) ∧ Aside0 (kq ≤ k) ∧ Aside0 (Kd.R k25 25 wc w.heap.size (fun _ => True) v194 t192) ∧ Aside0 (Below w.heap.size w wc))
        case first =>
          have H := HC15.out
          clear HC15
          by_cases c19 : t193 = 0
          · rw [if_pos c19] at H
            have c19b0 : (t193 == 0) = true := beq_iff_eq.mpr c19
            have c19b1 : (t193 != 0) = false := bne_eq_false_iff_eq.mpr c19
            clear c19
            (first | rw [c19b0] | (simp only [i64_w, i32_w]; rw [c19b0]) | skip)
            by_cases c20 : t197 = 0
            · rw [if_pos c20] at H
              have c20b0 : (t197 == 0) = true := beq_iff_eq.mpr c20
              have c20b1 : (t197 != 0) = false := bne_eq_false_iff_eq.mpr c20
              clear c20
              have H' := Aside0.mk H
              clear H
              obtain ⟨Ao21, co21, eo21⟩ := Kd.R_slice HO195.out
              subst eo21
              go_wp2
              go_meet
              case rel => exact ⟨_, (((t192.length : Int) != (ji9))), (by first | rfl | (simp; done) | (simp only [← hji9] <;> (first | rfl | simp)) | (simp [*]; done)), H', ⟨by first | omega | exact Nat.le_refl _⟩, ⟨by (with_reducible repeat (first | apply Kd.R_alloc | apply Kd.R_drewN | apply Kd.R_drew)); exact HO195.out⟩, ⟨by repeat (first | (with_reducible first | exact HB.out | apply below_alloc | apply pw_below_drewN | apply below_drew1) | exact HB.out)⟩⟩
            · rw [if_neg c20] at H
              have c20b0 : (t197 == 0) = false := beq_eq_false_iff_ne.mpr c20
              have c20b1 : (t197 != 0) = true := bne_iff_ne.mpr c20
              have H' := Aside0.mk H
              clear H
              go_wp2
              go_meet
              case rel => exact ⟨_, (true), (by first | rfl | (simp; done) | (simp [*]; done)), H', ⟨by first | omega | exact Nat.le_refl _⟩, ⟨by (with_reducible repeat (first | apply Kd.R_alloc | apply Kd.R_drewN | apply Kd.R_drew)); exact HO195.out⟩, ⟨by repeat (first | (with_reducible first | exact HB.out | apply below_alloc | apply pw_below_drewN | apply below_drew1) | exact HB.out)⟩⟩
          · rw [if_neg c19] at H
            have c19b0 : (t193 == 0) = false := beq_eq_false_iff_ne.mpr c19
            have c19b1 : (t193 != 0) = true := bne_iff_ne.mpr c19
            (first | rw [c19b0] | (simp only [i64_w, i32_w]; rw [c19b0]) | skip)
            have H' := Aside0.mk H
            clear H
            go_wp2
            go_meet
            case rel => exact ⟨_, (true), (by first | rfl | (simp; done) | (simp [*]; done)), H', ⟨by first | omega | exact Nat.le_refl _⟩, ⟨by (with_reducible repeat (first | apply Kd.R_alloc | apply Kd.R_drewN | apply Kd.R_drew)); exact HO195.out⟩, ⟨by repeat (first | (with_reducible first | exact HB.out | apply below_alloc | apply pw_below_drewN | apply below_drew1) | exact HB.out)⟩⟩
        case rest =>
          clear HC15
          try clear c1
          try clear c2
          try clear p2
          try clear c6
          try clear p6
          try clear c7
          try clear c7b0
          try clear c7b1
          try clear c9
          try clear c10
          try clear c10b0
          try clear c10b1
          try clear c12
          try clear c12b0
          try clear c12b1
          try clear c17
          try clear c19
          try clear c19b0
          try clear c19b1
          try clear c20
          try clear c20b0
          try clear c20b1
          obtain ⟨kq, x65_14, rfl, HA, HJ14, HO_15, HB⟩ := hcut
          cases kq with
          | zero => exact absurd HA.out (by simp [wageofficelaw27_RangeproofLengths.j0])
          | succ kj14 =>
            have H := HA.out
            clear HA
            simp only [wageofficelaw27_RangeproofLengths.j0] at H
            by_cases c22 : x65_14 = true
            · subst c22
              have H1 : (some false) = some r := by rw [if_pos rfl] at H; exact H
              clear H
              have H := H1
              clear H1
              exact absurd (H.trans (congrArg some hRT.out)) (by simp)
            · replace c22 := Bool.eq_false_iff.mpr c22
              subst c22
              have H1 : (if ji9 = 0 then (none) else (wageofficelaw27_RangeproofLengths.l0 kj14 t191 ji9 t192 t196 (wrap64 ((Int.tmod (wrap64 (a4)) ji9) + 1)) 1 0)) = some r := by rw [if_neg (show ¬ (false = true) by decide)] at H; exact H
              clear H
              have H := H1
              clear H1
              by_cases c23 : ji9 = 0
              · rw [if_pos c23] at H
                exact absurd H (by simp)
              · rw [if_neg c23] at H
                have c23b0 : (ji9 == 0) = false := beq_eq_false_iff_ne.mpr c23
                have c23b1 : (ji9 != 0) = true := bne_iff_ne.mpr c23
                have H' := Aside0.mk H
                clear H
                go_wp2
                go_loopg [20, 21] kj14 (fun kq v20 v21 w' => ∃ (x20_2 : Int) (x21_2 : Int), v20 = .int .i64 x20_2 ∧ v21 = .int .i64 x21_2 ∧ Aside0 (wageofficelaw27_RangeproofLengths.l0 kq t191 ji9 t192 t196 (wrap64 ((Int.tmod (wrap64 (a4)) ji9) + 1)) x20_2 x21_2 = some r) ∧ Aside0 (kq ≤ kj14) ∧ Aside0 (Kd.R k25 25 w' w.heap.size (fun _ => True) v194 t192) ∧ Aside0 (Below w.heap.size w w'))
                case atStart => exact ⟨(1), (0), (by first | rfl | (simp; done) | (simp [*]; done)), (by first | rfl | (simp; done) | (simp [*]; done)), H', ⟨Nat.le_refl _⟩, ⟨by (with_reducible repeat (first | apply Kd.R_alloc | apply Kd.R_drewN | apply Kd.R_drew)); exact HO_15.out⟩, ⟨by repeat (first | (with_reducible first | exact HB.out | apply below_alloc | apply pw_below_drewN | apply below_drew1) | exact HB.out)⟩⟩
                case round =>
                  clear H'
                  try clear c1
                  try clear c2
                  try clear p2
                  try clear c6
                  try clear p6
                  try clear c7
                  try clear c7b0
                  try clear c7b1
                  try clear c9
                  try clear c10
                  try clear c10b0
                  try clear c10b1
                  try clear c12
                  try clear c12b0
                  try clear c12b1
                  try clear c17
                  try clear c19
                  try clear c19b0
                  try clear c19b1
                  try clear c20
                  try clear c20b0
                  try clear c20b1
                  try clear c22
                  try clear c23
                  try clear c23b0
                  try clear c23b1
                  try clear p2
                  try clear p6
                  obtain ⟨x20_2, x21_2, rfl, rfl, HA, HK2, HO_15, HB⟩ := hrel
                  cases gk with
                  | zero => exact absurd HA.out (by simp [wageofficelaw27_RangeproofLengths.l0])
                  | succ k2 =>
                    have H := HA.out
                    clear HA
                    simp only [wageofficelaw27_RangeproofLengths.l0] at H
                    by_cases c24 : x21_2 < (wrap64 ((Int.tmod (wrap64 (a4)) ji9) + 1))
                    · rw [if_pos c24] at H
                      have c24b0 : decide (x21_2 < (wrap64 ((Int.tmod (wrap64 (a4)) ji9) + 1))) = true := decide_eq_true c24
                      clear c24
                      by_cases c25 : 0 ≤ x21_2
                      · rw [if_pos c25] at H
                        have c25b0 : decide (0 ≤ x21_2) = true := decide_eq_true c25
                        clear c25
                        by_cases c26 : x21_2 < (t192.length : Int)
                        · rw [if_pos c26] at H
                          have c26b0 : decide (x21_2 < (t192.length : Int)) = true := decide_eq_true c26
                          clear c26
                          have c27b0 := eq_true (of_decide_eq_true (by first | (with_reducible assumption) | assumption) : 0 ≤ x21_2)
                          obtain ⟨ji28, hji28⟩ : ∃ j_ : Int, (shl .i64 1 x21_2) = j_ := ⟨_, rfl⟩
                          replace H : ((commitment_Power.f ((rd_T25 t192 x21_2).f0) (ji28)).bind fun t199 => (wageofficelaw27_RangeproofLengths.l0 k2 t191 ji9 t192 t196 (wrap64 ((Int.tmod (wrap64 (a4)) ji9) + 1)) (Int.tmod (wrap64 (x20_2 * t199)) 2147483579) (wrap64 (x21_2 + 1)))) = some r := by first | (rw [hji28] at H; exact H) | (simp only [hji28] at H ⊢; exact H)
                          have hji28_ : (IntKind.i64.wrap (1 * 2 ^ min x21_2.toNat 64)) = ji28 := hji28
                          have hji28z : x21_2 ≤ 64 → (IntKind.i64.wrap (1 * 2 ^ x21_2.toNat)) = ji28 := shl_small hji28
                          have hji28u : (IntKind.i64.wrap (2 ^ min x21_2.toNat 64)) = ji28 := by have h_ := hji28_; rw [Int.one_mul] at h_; exact h_
                          have hji28v : x21_2 ≤ 64 → (IntKind.i64.wrap (2 ^ x21_2.toNat)) = ji28 := fun hle_ => by have h_ := hji28z hle_; rw [Int.one_mul] at h_; exact h_
                          have hji28y : (wrap64 (1 * 2 ^ min x21_2.toNat 64)) = ji28 := (i64_w _).symm.trans hji28_
                          have hji28x : x21_2 ≤ 64 → (wrap64 (1 * 2 ^ x21_2.toNat)) = ji28 := fun h_ => (i64_w _).symm.trans (hji28z h_)
                          replace H := Option.bind_eq_some_iff.mp H
                          obtain ⟨t199, A290, H⟩ := H
                          replace H : (wageofficelaw27_RangeproofLengths.l0 k2 t191 ji9 t192 t196 (wrap64 ((Int.tmod (wrap64 (a4)) ji9) + 1)) (Int.tmod (wrap64 (x20_2 * t199)) 2147483579) (wrap64 (x21_2 + 1))) = some r := H
                          have A29 := Aside0.mk A290
                          clear A290
                          have H' := Aside0.mk H
                          clear H
                          try go_wp2
                          have n0_ := Aside0.mk (Kd.R_drew HO_15.out)
                          have n1_ := Aside0.mk (below_drew1 HB.out)
                          clear HO_15
                          clear HB
                          have HO_15 := n0_
                          have HB := n1_
                          clear n0_ n1_
                          obtain ⟨Ao31, co31, eo31⟩ := Kd.R_slice HO_15.out
                          (first | subst eo31 | (injection eo31 with f1_ f2_ f3_; have f4_ := f1_.symm; have f5_ := f3_.symm; clear f1_ f2_ f3_; subst f4_; subst f5_))
                          have p198 : 0 ≤ (x21_2 : Int) := of_decide_eq_true (by first | (with_reducible assumption) | assumption)
                          have q198 : x21_2 < (t192.length : Int) := of_decide_eq_true (by first | (with_reducible assumption) | assumption)
                          obtain ⟨ad198, e198, hx198_0, hx198_1, hx198_2, hx198_3, hx198_4, hx198_5, hx198_6⟩ := at_T25 (Kd.R_reads' HO_15.out).2.2 x21_2 p198 q198
                          cases e198
                          replace p198 := eq_true p198
                          replace q198 := eq_true q198
                          refine start_ (n := 12) (S := fun w' => w'.cell? (ad198.add ((x21_2).toNat * 7)) = some (.int .i64 ((rd_T25 t192 x21_2).f0)) ∧ w'.cell? ⟨(ad198.add ((x21_2).toNat * 7)).block, (ad198.add ((x21_2).toNat * 7)).off + 1, none⟩ = some (.int .i64 ((rd_T25 t192 x21_2).f1.f0)) ∧ w'.cell? ⟨(ad198.add ((x21_2).toNat * 7)).block, (ad198.add ((x21_2).toNat * 7)).off + 2, none⟩ = some (.int .i64 ((rd_T25 t192 x21_2).f1.f1)) ∧ w'.cell? ⟨(ad198.add ((x21_2).toNat * 7)).block, (ad198.add ((x21_2).toNat * 7)).off + 3, none⟩ = some (.int .i64 ((rd_T25 t192 x21_2).f2.f0)) ∧ w'.cell? ⟨(ad198.add ((x21_2).toNat * 7)).block, (ad198.add ((x21_2).toNat * 7)).off + 4, none⟩ = some (.int .i64 ((rd_T25 t192 x21_2).f2.f1)) ∧ w'.cell? ⟨(ad198.add ((x21_2).toNat * 7)).block, (ad198.add ((x21_2).toNat * 7)).off + 5, none⟩ = some (.int .i64 ((rd_T25 t192 x21_2).f3.f0)) ∧ w'.cell? ⟨(ad198.add ((x21_2).toNat * 7)).block, (ad198.add ((x21_2).toNat * 7)).off + 6, none⟩ = some (.int .i64 ((rd_T25 t192 x21_2).f3.f1))) (ds := []) #[false, false, false, false, false, false, false, false, false, false, false, false] (by kernel_rfl) rfl rfl ⟨hx198_0, hx198_1, hx198_2, hx198_3, hx198_4, hx198_5, hx198_6⟩ (fun hHeld => ?_); refine with_tabW wageofficelaw27_RangeproofLengths.tab15 wageofficelaw27_RangeproofLengths.bits15 (fun HT_ HW_ => ?_)
                          generalize wr.drew = w30 at HO_15 HB hx198_0 hx198_1 hx198_2 hx198_3 hx198_4 hx198_5 hx198_6 hHeld ⊢
                          refine pure_ (i := 0) (N := some 76) (v := ?_) (a' := ?_) #[true, false, false, false, false, false, false, false, false, false, false, false] rfl rfl (any_of HT_.out (by kernel_rfl)) (fun _ _ _ h => h) (Or.inl ⟨by rfl, ?_⟩) ?_ ?_
                          rotate_left
                          · intro w'
                            go_simp
                            with_reducible rfl
                          rotate_left
                          · simp only [Act.put, List.setIfInBounds_toArray, List.set_cons_zero, List.set_cons_succ, i64_w, i32_w]
                            rfl
                          refine pure_ (i := 1) (N := some 77) (v := ?_) (a' := ?_) #[true, true, false, false, false, false, false, false, false, false, false, false] rfl rfl (any_of HT_.out (by kernel_rfl)) (fun _ _ _ h => h) (Or.inl ⟨by rfl, ?_⟩) ?_ ?_
                          rotate_left
                          · intro w'
                            go_simp
                            with_reducible rfl
                          rotate_left
                          · simp only [Act.put, List.setIfInBounds_toArray, List.set_cons_zero, List.set_cons_succ, i64_w, i32_w]
                            rfl
                          refine pure_ (i := 2) (N := some 78) (v := ?_) (a' := ?_) #[true, true, true, false, false, false, false, false, false, false, false, false] rfl rfl (any_of HT_.out (by kernel_rfl)) (fun _ _ _ h => h) (Or.inl ⟨by rfl, ?_⟩) ?_ ?_
                          rotate_left
                          · intro w'
                            go_simp
                            with_reducible rfl
                          rotate_left
                          · simp only [Act.put, List.setIfInBounds_toArray, List.set_cons_zero, List.set_cons_succ, i64_w, i32_w]
                            rfl
                          refine pure_ (i := 3) (N := some 79) (v := ?_) (a' := ?_) #[true, true, true, true, false, false, false, false, false, false, false, false] rfl rfl (any_of HT_.out (by kernel_rfl)) (fun _ _ _ h => h) (Or.inl ⟨by rfl, ?_⟩) ?_ ?_
                          rotate_left
                          · intro w'
                            go_simp
                            with_reducible rfl
                          rotate_left
                          · simp only [Act.put, List.setIfInBounds_toArray, List.set_cons_zero, List.set_cons_succ, i64_w, i32_w]
                            rfl
                          refine pure_ (i := 4) (N := some 80) (v := ?_) (a' := ?_) #[true, true, true, true, true, false, false, false, false, false, false, false] rfl rfl (any_of HT_.out (by kernel_rfl)) (fun _ _ _ h => h) (Or.inl ⟨by rfl, ?_⟩) ?_ ?_
                          rotate_left
                          · intro w'
                            go_simp
                            with_reducible rfl
                          rotate_left
                          · simp only [Act.put, List.setIfInBounds_toArray, List.set_cons_zero, List.set_cons_succ, i64_w, i32_w]
                            rfl
                          refine pure_ (i := 6) (N := some 82) (v := ?_) (a' := ?_) #[true, true, true, true, true, false, true, false, false, false, false, false] rfl rfl (any_of HT_.out (by kernel_rfl)) (fun _ _ _ h => h) (Or.inl ⟨by rfl, ?_⟩) ?_ ?_
                          rotate_left
                          · intro w'
                            go_simp
                            with_reducible rfl
                          rotate_left
                          · simp only [Act.put, List.setIfInBounds_toArray, List.set_cons_zero, List.set_cons_succ, i64_w, i32_w]
                            rfl
                          refine pure_ (i := 7) (N := some 83) (v := ?_) (a' := ?_) #[true, true, true, true, true, false, true, true, false, false, false, false] rfl rfl (any_of HT_.out (by kernel_rfl)) (fun _ _ _ h => h) (Or.inl ⟨by rfl, ?_⟩) ?_ ?_
                          rotate_left
                          · intro w'
                            go_simp
                            with_reducible rfl
                          rotate_left
                          · simp only [Act.put, List.setIfInBounds_toArray, List.set_cons_zero, List.set_cons_succ, i64_w, i32_w]
                            rfl
                          refine take_ (i := 5) (N := some 81) (v := ?_) (a' := ?_) #[true, true, true, true, true, true, true, true, false, false, false, false] rfl rfl (take_ofW HT_.out HW_.out (by kernel_rfl)) (fun _ _ _ h => h) (Or.inl ⟨by rfl, ?_⟩) hHeld ?_ ?_
                          rotate_left
                          · rintro w' ⟨s0, s1, s2, s3, s4, s5, s6⟩
                            go_simp
                            with_reducible rfl
                          rotate_left
                          · simp only [Act.put, List.setIfInBounds_toArray, List.set_cons_zero, List.set_cons_succ, i64_w, i32_w]
                            rfl
                          refine one_ (i := 8) (N := some 84) #[true, true, true, true, true, true, true, true, true, false, false, false] rfl rfl (one_of HT_.out (by kernel_rfl)) (by decide) (fun K hK => ?_)
                          refine goes_ Tryd.func18 (by kernel_rfl) rfl #[.int .i64 ((rd_T25 t192 x21_2).f0), .int .i64 ji28] (by rfl) rfl rfl (by (try simp only [List.map_toArray, List.map_cons, List.map_nil]); first | done | (simp only [hji28]; rfl) | rfl | (simp only [List.length_drop, List.length_take]; rfl)) ?_
                          with_reducible refine (commitment_Power.calls ((rd_T25 t192 x21_2).f0) ji28 t199 _ A29.out).mono ?_
                          rintro e w32 ⟨rfl, hb⟩
                          have HS0_ := (hb.cell (World.block_lt_of_cell? _ _ (hHeld.1))).trans (hHeld.1)
                          have HS1_ := (hb.cell (World.block_lt_of_cell? _ _ (hHeld.2.1))).trans (hHeld.2.1)
                          have HS2_ := (hb.cell (World.block_lt_of_cell? _ _ (hHeld.2.2.1))).trans (hHeld.2.2.1)
                          have HS3_ := (hb.cell (World.block_lt_of_cell? _ _ (hHeld.2.2.2.1))).trans (hHeld.2.2.2.1)
                          have HS4_ := (hb.cell (World.block_lt_of_cell? _ _ (hHeld.2.2.2.2.1))).trans (hHeld.2.2.2.2.1)
                          have HS5_ := (hb.cell (World.block_lt_of_cell? _ _ (hHeld.2.2.2.2.2.1))).trans (hHeld.2.2.2.2.2.1)
                          have HS6_ := (hb.cell (World.block_lt_of_cell? _ _ (hHeld.2.2.2.2.2.2))).trans (hHeld.2.2.2.2.2.2)
                          refine ⟨_, rfl, ?_⟩
                          have n0_ := Aside0.mk (Kd.R_below (by (with_reducible repeat (first | apply Kd.R_alloc | apply Kd.R_drewN | apply Kd.R_drew)); exact HO_15.out) hb)
                          have n1_ := Aside0.mk (below_step (by repeat (first | (with_reducible first | exact HB.out | apply below_alloc | apply pw_below_drewN | apply below_drew1) | exact HB.out)) hb)
                          clear HO_15
                          clear HB
                          have HO_15 := n0_
                          have HB := n1_
                          clear n0_ n1_
                          (try clear hb)
                          (try clear hb2)
                          (try clear hk)
                          (try clear hi)
                          refine hK.out _ _ ⟨HS0_, HS1_, HS2_, HS3_, HS4_, HS5_, HS6_⟩ (fun hHeld => ?_)
                          clear hK K
                          refine norm_ (a' := ?_) ?_ ?_
                          rotate_left
                          · show Act.put _ (some 84) _ = _
                            simp only [Act.put, List.setIfInBounds_toArray, List.set_cons_zero, List.set_cons_succ, i64_w, i32_w]
                            rfl
                          refine pure_ (i := 9) (N := some 85) (v := ?_) (a' := ?_) #[true, true, true, true, true, true, true, true, true, true, false, false] rfl rfl (any_of HT_.out (by kernel_rfl)) (fun _ _ _ h => h) (Or.inl ⟨by rfl, ?_⟩) ?_ ?_
                          rotate_left
                          · intro w'
                            go_simp
                            with_reducible rfl
                          rotate_left
                          · simp only [Act.put, List.setIfInBounds_toArray, List.set_cons_zero, List.set_cons_succ, i64_w, i32_w]
                            rfl
                          refine pure_ (i := 10) (N := some 86) (v := ?_) (a' := ?_) #[true, true, true, true, true, true, true, true, true, true, true, false] rfl rfl (any_of HT_.out (by kernel_rfl)) (fun _ _ _ h => h) (Or.inl ⟨by rfl, ?_⟩) ?_ ?_
                          rotate_left
                          · intro w'
                            go_simp
                            with_reducible rfl
                          rotate_left
                          · simp only [Act.put, List.setIfInBounds_toArray, List.set_cons_zero, List.set_cons_succ, i64_w, i32_w]
                            rfl
                          refine pure_ (i := 11) (N := some 20) (v := ?_) (a' := ?_) #[true, true, true, true, true, true, true, true, true, true, true, true] rfl rfl (any_of HT_.out (by kernel_rfl)) (fun _ _ _ h => h) (Or.inl ⟨by rfl, ?_⟩) ?_ ?_
                          rotate_left
                          · intro w'
                            go_simp
                            with_reducible rfl
                          rotate_left
                          · simp only [Act.put, List.setIfInBounds_toArray, List.set_cons_zero, List.set_cons_succ, i64_w, i32_w]
                            rfl
                          refine done_ (done_of HT_.out (by kernel_rfl)) ?_
                          try go_wp2
                          go_roundg k2
                          case measure => have := HJ14.out; have := HK2.out; omega
                          case rel => exact ⟨(Int.tmod (wrap64 (x20_2 * t199)) 2147483579), (wrap64 (x21_2 + 1)), (by first | rfl | (simp; done) | (simp [*]; done)), (by first | rfl | (simp; done) | (simp [*]; done)), H', ⟨by have := HJ14.out; have := HK2.out; omega⟩, ⟨by (with_reducible repeat (first | apply Kd.R_alloc | apply Kd.R_drewN | apply Kd.R_drew)); exact HO_15.out⟩, ⟨by repeat (first | (with_reducible first | exact HB.out | apply below_alloc | apply pw_below_drewN | apply below_drew1) | exact HB.out)⟩⟩
                        · rw [if_neg c26] at H
                          exact absurd H (by simp)
                      · rw [if_neg c25] at H
                        exact absurd H (by simp)
                    · rw [if_neg c24] at H
                      have c24b0 : decide (x21_2 < (wrap64 ((Int.tmod (wrap64 (a4)) ji9) + 1))) = false := decide_eq_false c24
                      clear c24
                      obtain ⟨y200, hy200⟩ : ∃ y_ : List (S25), y_ = (([] : List (S25))) := ⟨_, rfl⟩
                      replace H : (if y200.length + t192.length < 2513169434916 then ((some (y200 ++ t192 : List (S25))).bind fun y203 => (if 0 < (t192.length : Int) then (if y203.length < 2513169434916 then (if t191 = true then (if 0 ≤ (wrap64 ((Int.tmod (wrap64 (a4)) ji9) + 1)) then (if (wrap64 ((Int.tmod (wrap64 (a4)) ji9) + 1)) ≤ (t192.length : Int) then ((rangeproof_Verify.f k2 x20_2 (wrap64 ((Int.tmod (wrap64 (a4)) ji9) + 1)) (t192.take ((wrap64 ((Int.tmod (wrap64 (a4)) ji9) + 1)) : Int).toNat)).bind fun t214 => (if t214 = true then ((rangeproof_Verify.f k2 t196 ji9 (y203 ++ [(⟨(rd_T25 t192 0).f0, (⟨(rd_T25 t192 0).f1.f0, (rd_T25 t192 0).f1.f1⟩ : S23), (⟨(rd_T25 t192 0).f2.f0, (rd_T25 t192 0).f2.f1⟩ : S23), (⟨(rd_T25 t192 0).f3.f0, (rd_T25 t192 0).f3.f1⟩ : S23)⟩ : S25)])).bind fun t215 => (if t215 = true then (some false) else (if 0 ≤ (wrap64 (ji9 - 1)) then (if (wrap64 (ji9 - 1)) ≤ (t192.length : Int) then ((rangeproof_Verify.f k2 t196 ji9 (t192.take ((wrap64 (ji9 - 1)) : Int).toNat)).bind fun t220 => (some (!t220))) else (none)) else (none)))) else (some false))) else (none)) else (none)) else (some false)) else (none)) else (none))) else (none)) = some r := by first | (rw [hy200]; with_reducible exact H) | (have H2_ := (Option.bind_some _ _).symm.trans H; rw [hy200]; with_reducible exact H2_) | (have H2_ := (Option.bind_some _ _).symm.trans H; with_reducible exact H2_) | with_reducible exact H | (rw [hy200]; exact H) | exact H
                      have Ny200 := Aside0.mk hy200
                      clear hy200
                      by_cases c33 : y200.length + t192.length < 2513169434916
                      · rw [if_pos c33] at H
                        have LMc33 := Aside0.mk c33
                        clear c33
                        obtain ⟨y203, hy203⟩ : ∃ y_ : List (S25), y_ = (y200 ++ t192) := ⟨_, rfl⟩
                        replace H : (if 0 < (t192.length : Int) then (if y203.length < 2513169434916 then (if t191 = true then (if 0 ≤ (wrap64 ((Int.tmod (wrap64 (a4)) ji9) + 1)) then (if (wrap64 ((Int.tmod (wrap64 (a4)) ji9) + 1)) ≤ (t192.length : Int) then ((rangeproof_Verify.f k2 x20_2 (wrap64 ((Int.tmod (wrap64 (a4)) ji9) + 1)) (t192.take ((wrap64 ((Int.tmod (wrap64 (a4)) ji9) + 1)) : Int).toNat)).bind fun t214 => (if t214 = true then ((rangeproof_Verify.f k2 t196 ji9 (y203 ++ [(⟨(rd_T25 t192 0).f0, (⟨(rd_T25 t192 0).f1.f0, (rd_T25 t192 0).f1.f1⟩ : S23), (⟨(rd_T25 t192 0).f2.f0, (rd_T25 t192 0).f2.f1⟩ : S23), (⟨(rd_T25 t192 0).f3.f0, (rd_T25 t192 0).f3.f1⟩ : S23)⟩ : S25)])).bind fun t215 => (if t215 = true then (some false) else (if 0 ≤ (wrap64 (ji9 - 1)) then (if (wrap64 (ji9 - 1)) ≤ (t192.length : Int) then ((rangeproof_Verify.f k2 t196 ji9 (t192.take ((wrap64 (ji9 - 1)) : Int).toNat)).bind fun t220 => (some (!t220))) else (none)) else (none)))) else (some false))) else (none)) else (none)) else (some false)) else (none)) else (none)) = some r := by first | (rw [hy203]; with_reducible exact H) | (have H2_ := (Option.bind_some _ _).symm.trans H; rw [hy203]; with_reducible exact H2_) | (have H2_ := (Option.bind_some _ _).symm.trans H; with_reducible exact H2_) | with_reducible exact H | (rw [hy203]; exact H) | exact H
                        have Ny203 := Aside0.mk hy203
                        clear hy203
                        by_cases c34 : 0 < (t192.length : Int)
                        · rw [if_pos c34] at H
                          have c34b0 : decide (0 < (t192.length : Int)) = true := decide_eq_true c34
                          have c34b1 : decide (0 < t192.length) = true := decide_eq_true (by omega)
                          clear c34
                          by_cases c35 : y203.length < 2513169434916
                          · rw [if_pos c35] at H
                            have LMc35 := Aside0.mk c35
                            clear c35
                            obtain ⟨y207, hy207⟩ : ∃ y_ : List (S25), y_ = (y203 ++ [(⟨(rd_T25 t192 0).f0, (⟨(rd_T25 t192 0).f1.f0, (rd_T25 t192 0).f1.f1⟩ : S23), (⟨(rd_T25 t192 0).f2.f0, (rd_T25 t192 0).f2.f1⟩ : S23), (⟨(rd_T25 t192 0).f3.f0, (rd_T25 t192 0).f3.f1⟩ : S23)⟩ : S25)]) := ⟨_, rfl⟩
                            replace H : (if t191 = true then (if 0 ≤ (wrap64 ((Int.tmod (wrap64 (a4)) ji9) + 1)) then (if (wrap64 ((Int.tmod (wrap64 (a4)) ji9) + 1)) ≤ (t192.length : Int) then ((rangeproof_Verify.f k2 x20_2 (wrap64 ((Int.tmod (wrap64 (a4)) ji9) + 1)) (t192.take ((wrap64 ((Int.tmod (wrap64 (a4)) ji9) + 1)) : Int).toNat)).bind fun t214 => (if t214 = true then ((rangeproof_Verify.f k2 t196 ji9 y207).bind fun t215 => (if t215 = true then (some false) else (if 0 ≤ (wrap64 (ji9 - 1)) then (if (wrap64 (ji9 - 1)) ≤ (t192.length : Int) then ((rangeproof_Verify.f k2 t196 ji9 (t192.take ((wrap64 (ji9 - 1)) : Int).toNat)).bind fun t220 => (some (!t220))) else (none)) else (none)))) else (some false))) else (none)) else (none)) else (some false)) = some r := by first | (rw [hy207]; with_reducible exact H) | (have H2_ := (Option.bind_some _ _).symm.trans H; rw [hy207]; with_reducible exact H2_) | (have H2_ := (Option.bind_some _ _).symm.trans H; with_reducible exact H2_) | with_reducible exact H | (rw [hy207]; exact H) | exact H
                            have Ny207 := Aside0.mk hy207
                            clear hy207
                            by_cases c36 : t191 = true
                            · subst c36
                              have H1 : (if 0 ≤ (wrap64 ((Int.tmod (wrap64 (a4)) ji9) + 1)) then (if (wrap64 ((Int.tmod (wrap64 (a4)) ji9) + 1)) ≤ (t192.length : Int) then ((rangeproof_Verify.f k2 x20_2 (wrap64 ((Int.tmod (wrap64 (a4)) ji9) + 1)) (t192.take ((wrap64 ((Int.tmod (wrap64 (a4)) ji9) + 1)) : Int).toNat)).bind fun t214 => (if t214 = true then ((rangeproof_Verify.f k2 t196 ji9 y207).bind fun t215 => (if t215 = true then (some false) else (if 0 ≤ (wrap64 (ji9 - 1)) then (if (wrap64 (ji9 - 1)) ≤ (t192.length : Int) then ((rangeproof_Verify.f k2 t196 ji9 (t192.take ((wrap64 (ji9 - 1)) : Int).toNat)).bind fun t220 => (some (!t220))) else (none)) else (none)))) else (some false))) else (none)) else (none)) = some r := by rw [if_pos rfl] at H; exact H
                              clear H
                              have H := H1
                              clear H1
                              obtain ⟨ji37, hji37⟩ : ∃ j_ : Int, (wrap64 ((Int.tmod (wrap64 (a4)) ji9) + 1)) = j_ := ⟨_, rfl⟩
                              replace H : (if 0 ≤ (ji37) then (if (ji37) ≤ (t192.length : Int) then ((rangeproof_Verify.f k2 x20_2 (ji37) (t192.take ((ji37) : Int).toNat)).bind fun t214 => (if t214 = true then ((rangeproof_Verify.f k2 t196 ji9 y207).bind fun t215 => (if t215 = true then (some false) else (if 0 ≤ (wrap64 (ji9 - 1)) then (if (wrap64 (ji9 - 1)) ≤ (t192.length : Int) then ((rangeproof_Verify.f k2 t196 ji9 (t192.take ((wrap64 (ji9 - 1)) : Int).toNat)).bind fun t220 => (some (!t220))) else (none)) else (none)))) else (some false))) else (none)) else (none)) = some r := by first | (rw [hji37] at H; exact H) | (simp only [hji37] at H ⊢; exact H)
                              (try rw [hji37] at c24b0)
                              have hji37w : (IntKind.i64.wrap ((Int.tmod (wrap64 (a4)) ji9) + 1)) = ji37 := (i64_w _).trans hji37
                              by_cases c38 : 0 ≤ (ji37)
                              · rw [if_pos c38] at H
                                have c38b0 := eq_true c38
                                have c38b1 : decide (0 ≤ (ji37)) = true := decide_eq_true c38
                                clear c38
                                by_cases c39 : (ji37) ≤ (t192.length : Int)
                                · rw [if_pos c39] at H
                                  have c39b0 := eq_true c39
                                  have c39b1 : decide ((ji37) ≤ (t192.length : Int)) = true := decide_eq_true c39
                                  clear c39
                                  obtain ⟨y210, hy210⟩ : ∃ y_ : List (S25), y_ = (t192.take ((ji37) : Int).toNat) := ⟨_, rfl⟩
                                  replace H : ((rangeproof_Verify.f k2 x20_2 (ji37) y210).bind fun t214 => (if t214 = true then ((rangeproof_Verify.f k2 t196 ji9 y207).bind fun t215 => (if t215 = true then (some false) else (if 0 ≤ (wrap64 (ji9 - 1)) then (if (wrap64 (ji9 - 1)) ≤ (t192.length : Int) then ((rangeproof_Verify.f k2 t196 ji9 (t192.take ((wrap64 (ji9 - 1)) : Int).toNat)).bind fun t220 => (some (!t220))) else (none)) else (none)))) else (some false))) = some r := by first | (rw [hy210]; with_reducible exact H) | (have H2_ := (Option.bind_some _ _).symm.trans H; rw [hy210]; with_reducible exact H2_) | (have H2_ := (Option.bind_some _ _).symm.trans H; with_reducible exact H2_) | with_reducible exact H | (rw [hy210]; exact H) | exact H
                                  have Ny210 := Aside0.mk hy210
                                  clear hy210
                                  replace H := Option.bind_eq_some_iff.mp H
                                  obtain ⟨t214, A400, H⟩ := H
                                  replace H : (if t214 = true then ((rangeproof_Verify.f k2 t196 ji9 y207).bind fun t215 => (if t215 = true then (some false) else (if 0 ≤ (wrap64 (ji9 - 1)) then (if (wrap64 (ji9 - 1)) ≤ (t192.length : Int) then ((rangeproof_Verify.f k2 t196 ji9 (t192.take ((wrap64 (ji9 - 1)) : Int).toNat)).bind fun t220 => (some (!t220))) else (none)) else (none)))) else (some false)) = some r := H
                                  have A40 := Aside0.mk A400
                                  clear A400
                                  by_cases c41 : t214 = true
                                  · subst c41
                                    have H1 : ((rangeproof_Verify.f k2 t196 ji9 y207).bind fun t215 => (if t215 = true then (some false) else (if 0 ≤ (wrap64 (ji9 - 1)) then (if (wrap64 (ji9 - 1)) ≤ (t192.length : Int) then ((rangeproof_Verify.f k2 t196 ji9 (t192.take ((wrap64 (ji9 - 1)) : Int).toNat)).bind fun t220 => (some (!t220))) else (none)) else (none)))) = some r := by rw [if_pos rfl] at H; exact H
                                    clear H
                                    have H := H1
                                    clear H1
                                    replace H := Option.bind_eq_some_iff.mp H
                                    obtain ⟨t215, A420, H⟩ := H
                                    replace H : (if t215 = true then (some false) else (if 0 ≤ (wrap64 (ji9 - 1)) then (if (wrap64 (ji9 - 1)) ≤ (t192.length : Int) then ((rangeproof_Verify.f k2 t196 ji9 (t192.take ((wrap64 (ji9 - 1)) : Int).toNat)).bind fun t220 => (some (!t220))) else (none)) else (none))) = some r := H
                                    have A42 := Aside0.mk A420
                                    clear A420
                                    by_cases c43 : t215 = true
                                    · subst c43
                                      have H1 : (some false) = some r := by rw [if_pos rfl] at H; exact H
                                      clear H
                                      have H := H1
                                      clear H1
                                      exact absurd (H.trans (congrArg some hRT.out)) (by simp)
                                    · replace c43 := Bool.eq_false_iff.mpr c43
                                      subst c43
                                      have H1 : (if 0 ≤ (wrap64 (ji9 - 1)) then (if (wrap64 (ji9 - 1)) ≤ (t192.length : Int) then ((rangeproof_Verify.f k2 t196 ji9 (t192.take ((wrap64 (ji9 - 1)) : Int).toNat)).bind fun t220 => (some (!t220))) else (none)) else (none)) = some r := by rw [if_neg (show ¬ (false = true) by decide)] at H; exact H
                                      clear H
                                      have H := H1
                                      clear H1
                                      obtain ⟨ji44, hji44⟩ : ∃ j_ : Int, (wrap64 (ji9 - 1)) = j_ := ⟨_, rfl⟩
                                      replace H : (if 0 ≤ (ji44) then (if (ji44) ≤ (t192.length : Int) then ((rangeproof_Verify.f k2 t196 ji9 (t192.take ((ji44) : Int).toNat)).bind fun t220 => (some (!t220))) else (none)) else (none)) = some r := by first | (rw [hji44] at H; exact H) | (simp only [hji44] at H ⊢; exact H)
                                      (try rw [hji44] at A40)
                                      (try rw [hji44] at A42)
                                      have hji44w : (IntKind.i64.wrap (ji9 - 1)) = ji44 := (i64_w _).trans hji44
                                      by_cases c45 : 0 ≤ (ji44)
                                      · rw [if_pos c45] at H
                                        have c45b0 := eq_true c45
                                        have c45b1 : decide (0 ≤ (ji44)) = true := decide_eq_true c45
                                        clear c45
                                        by_cases c46 : (ji44) ≤ (t192.length : Int)
                                        · rw [if_pos c46] at H
                                          have c46b0 := eq_true c46
                                          have c46b1 : decide ((ji44) ≤ (t192.length : Int)) = true := decide_eq_true c46
                                          clear c46
                                          obtain ⟨y216, hy216⟩ : ∃ y_ : List (S25), y_ = (t192.take ((ji44) : Int).toNat) := ⟨_, rfl⟩
                                          replace H : ((rangeproof_Verify.f k2 t196 ji9 y216).bind fun t220 => (some (!t220))) = some r := by first | (rw [hy216]; with_reducible exact H) | (have H2_ := (Option.bind_some _ _).symm.trans H; rw [hy216]; with_reducible exact H2_) | (have H2_ := (Option.bind_some _ _).symm.trans H; with_reducible exact H2_) | with_reducible exact H | (rw [hy216]; exact H) | exact H
                                          have Ny216 := Aside0.mk hy216
                                          clear hy216
                                          replace H := Option.bind_eq_some_iff.mp H
                                          obtain ⟨t220, A470, H⟩ := H
                                          replace H : (some (!t220)) = some r := H
                                          have A47 := Aside0.mk A470
                                          clear A470
                                          obtain rfl := Option.some.inj H
                                          try go_wp2
                                          obtain ⟨Ao51, co51, eo51⟩ := Kd.R_slice HO_15.out
                                          (first | subst eo51 | (injection eo51 with f1_ f2_ f3_; have f4_ := f1_.symm; have f5_ := f3_.symm; clear f1_ f2_ f3_; subst f4_; subst f5_))
                                          have HQ : Aside0 ((0 : Int) < (t192.length : Int)) := ⟨of_decide_eq_true (by first | (with_reducible assumption) | assumption)⟩
                                          obtain ⟨ad206, e206, _⟩ := at_T25 (Kd.R_reads' HO_15.out).2.2 0 (by omega) HQ.out
                                          cases e206
                                          have qi206 : (0 < t192.length) = True := eq_true (by have := HQ.out; omega)
                                          have q206 : ((0 : Int) < (t192.length : Int)) = True := eq_true HQ.out
                                          obtain ⟨yt, hyt⟩ : ∃ y_ : List (S25), y_ = [(⟨(rd_T25 t192 0).f0, (⟨(rd_T25 t192 0).f1.f0, (rd_T25 t192 0).f1.f1⟩ : S23), (⟨(rd_T25 t192 0).f2.f0, (rd_T25 t192 0).f2.f1⟩ : S23), (⟨(rd_T25 t192 0).f3.f0, (rd_T25 t192 0).f3.f1⟩ : S23)⟩ : S25)] := ⟨_, rfl⟩
                                          have Nyt := Aside0.mk hyt
                                          have LYt : Aside0 (yt.length = 1) := ⟨by rw [hyt]; rfl⟩
                                          clear hyt
                                          have n0_ := Aside0.mk (Kd.R_drew HO_15.out)
                                          have n1_ := Aside0.mk (below_drew1 HB.out)
                                          clear HO_15
                                          clear HB
                                          have HO_15 := n0_
                                          have HB := n1_
                                          clear n0_ n1_
                                          refine start_ (n := 9) (S := fun w' => w'.cell? ad206 = some (.int .i64 ((rd_T25 t192 0).f0)) ∧ w'.cell? ⟨ad206.block, ad206.off + 1, none⟩ = some (.int .i64 ((rd_T25 t192 0).f1.f0)) ∧ w'.cell? ⟨ad206.block, ad206.off + 2, none⟩ = some (.int .i64 ((rd_T25 t192 0).f1.f1)) ∧ w'.cell? ⟨ad206.block, ad206.off + 3, none⟩ = some (.int .i64 ((rd_T25 t192 0).f2.f0)) ∧ w'.cell? ⟨ad206.block, ad206.off + 4, none⟩ = some (.int .i64 ((rd_T25 t192 0).f2.f1)) ∧ w'.cell? ⟨ad206.block, ad206.off + 5, none⟩ = some (.int .i64 ((rd_T25 t192 0).f3.f0)) ∧ w'.cell? ⟨ad206.block, ad206.off + 6, none⟩ = some (.int .i64 ((rd_T25 t192 0).f3.f1))) (ds := []) #[false, false, false, false, false, false, false, false, false] (by kernel_rfl) rfl rfl (held7_ (Kd.R_reads' HO_15.out).2.2 HQ.out) (fun hHeld => ?_)
                                          generalize wr.drew = w47 at HO_15 HB hHeld ⊢
                                          refine pure_ (i := 1) (N := some 88) (v := ?_) (a' := ?_) #[false, true, false, false, false, false, false, false, false] rfl rfl (by kernel_rfl) (fun _ _ _ h => h) (Or.inl ⟨by rfl, ?_⟩) ?_ ?_
                                          rotate_left
                                          · intro w'
                                            go_simp
                                            with_reducible rfl
                                          rotate_left
                                          · simp only [Act.put, List.setIfInBounds_toArray, List.set_cons_zero, List.set_cons_succ, i64_w, i32_w]
                                            rfl
                                          refine pure_ (i := 3) (N := some 90) (v := ?_) (a' := ?_) #[false, true, false, true, false, false, false, false, false] rfl rfl (by kernel_rfl) (fun _ _ _ h => h) (Or.inl ⟨by rfl, ?_⟩) ?_ ?_
                                          rotate_left
                                          · intro w'
                                            go_simp
                                            with_reducible rfl
                                          rotate_left
                                          · simp only [Act.put, List.setIfInBounds_toArray, List.set_cons_zero, List.set_cons_succ, i64_w, i32_w]
                                            rfl
                                          refine pure_ (i := 4) (N := some 91) (v := ?_) (a' := ?_) #[false, true, false, true, true, false, false, false, false] rfl rfl (by kernel_rfl) (fun _ _ _ h => h) (Or.inl ⟨by rfl, ?_⟩) ?_ ?_
                                          rotate_left
                                          · intro w'
                                            go_simp
                                            with_reducible rfl
                                          rotate_left
                                          · simp only [Act.put, List.setIfInBounds_toArray, List.set_cons_zero, List.set_cons_succ, i64_w, i32_w]
                                            rfl
                                          refine take_ (i := 5) (N := some 92) (v := ?_) (a' := ?_) #[false, true, false, true, true, true, false, false, false] rfl rfl (by kernel_rfl) (fun _ _ _ h => h) (Or.inl ⟨by rfl, ?_⟩) hHeld ?_ ?_
                                          rotate_left
                                          · rintro w' ⟨s0, s1, s2, s3, s4, s5, s6⟩
                                            go_simp
                                            with_reducible rfl
                                          rotate_left
                                          · simp only [Act.put, List.setIfInBounds_toArray, List.set_cons_zero, List.set_cons_succ, i64_w, i32_w]
                                            rfl
                                          refine join_ (σ := Value × Value × Value) 2 #[true, true, true, true, true, true, true, false, false] (fun s_ => [(87, s_.1), (89, s_.2.1), (93, s_.2.2)]) (fun s_ w' => (w'.cell? ad206 = some (.int .i64 ((rd_T25 t192 0).f0)) ∧ w'.cell? ⟨ad206.block, ad206.off + 1, none⟩ = some (.int .i64 ((rd_T25 t192 0).f1.f0)) ∧ w'.cell? ⟨ad206.block, ad206.off + 2, none⟩ = some (.int .i64 ((rd_T25 t192 0).f1.f1)) ∧ w'.cell? ⟨ad206.block, ad206.off + 3, none⟩ = some (.int .i64 ((rd_T25 t192 0).f2.f0)) ∧ w'.cell? ⟨ad206.block, ad206.off + 4, none⟩ = some (.int .i64 ((rd_T25 t192 0).f2.f1)) ∧ w'.cell? ⟨ad206.block, ad206.off + 5, none⟩ = some (.int .i64 ((rd_T25 t192 0).f3.f0)) ∧ w'.cell? ⟨ad206.block, ad206.off + 6, none⟩ = some (.int .i64 ((rd_T25 t192 0).f3.f1))) ∧ (Kd.R k25 25 w' w.heap.size (fun k_ => some k_ ≠ (s_.2.2 : Value).ownBlock ∧ some k_ ≠ (.slice (some ad206) t192.length co51 : Value).ownBlock) s_.2.1 y203) ∧ (Kd.R k25 25 w' w.heap.size (fun k_ => some k_ ≠ (s_.2.1 : Value).ownBlock ∧ some k_ ≠ (.slice (some ad206) t192.length co51 : Value).ownBlock) s_.2.2 yt) ∧ (Kd.R k25 25 w' w.heap.size (fun k_ => some k_ ≠ (s_.2.1 : Value).ownBlock ∧ some k_ ≠ (s_.2.2 : Value).ownBlock) (.slice (some ad206) t192.length co51) t192) ∧ (Below w.heap.size w w')) ?_ ?_
                                          rotate_left
                                          · intro hCont
                                            refine two_ (i := 0) (j := 6) (Ni := some 87) (Nj := some 93) #[true, true, false, true, true, true, false, false, false] #[false, true, false, true, true, true, true, false, false] rfl rfl rfl rfl (by kernel_rfl) (by decide) (by decide) (fun K hK => ?_) (fun K hK => ?_)
                                            · skip
                                              refine Kd.R_lit_step k25 _ 25 ?hg (N := 87) ?hd (xs := ([] : List (S25))) (inner := []) (ok := fun _ => True) (okp := fun _ => True) ?hr ?hp (fun _ hk => hk) trivial (Below.refl _ _) (Nat.le_refl _) (by simp) ?_; (case hd => rfl); (case hg => rfl); (case hr => first | (go_simp; done) | (go_simp; rfl)); (case hp => exact (Reps.none _ _))
                                              intro v201 wL ho hb hg_ hnew_
                                              clear hg_ hnew_
                                              (first | rw [← Ny200.out] at ho | (simp only [Int.reduceToNat] at ho; rw [← Ny200.out] at ho))
                                              have n0_ := Aside0.mk (Kd.R_elder' (by (with_reducible repeat (first | apply Kd.R_alloc | apply Kd.R_drewN | apply Kd.R_drew)); exact HO_15.out) (Kd.R_base ho) hb)
                                              have n1_ := Aside0.mk (Kd.R_lower (Kd.R_new' ho (Kd.R_lt (by (with_reducible repeat (first | apply Kd.R_alloc | apply Kd.R_drewN | apply Kd.R_drew)); exact HO_15.out))) (below_size (by repeat (first | (with_reducible first | exact HB.out | apply below_alloc | apply pw_below_drewN | apply below_drew1) | exact HB.out))))
                                              have n2_ := Aside0.mk (below_step (by repeat (first | (with_reducible first | exact HB.out | apply below_alloc | apply pw_below_drewN | apply below_drew1) | exact HB.out)) hb)
                                              (try clear HO_15)
                                              (try clear HO202)
                                              (try clear HB)
                                              have HO_15 := n0_
                                              have HO202 := n1_
                                              have HB := n2_
                                              clear n0_ n1_ n2_
                                              clear hb ho
                                              refine hK.out _ _ (held7_ (Kd.R_reads' HO_15.out).2.2 HQ.out) (fun hHeld => ?_)
                                              clear hK K
                                              refine norm_ (a' := ?_) ?_ ?_
                                              rotate_left
                                              · show Act.put _ (some 87) _ = _
                                                simp only [Act.put, List.setIfInBounds_toArray, List.set_cons_zero, List.set_cons_succ, i64_w, i32_w]
                                                rfl
                                              refine two_ (i := 2) (j := 6) (Ni := some 89) (Nj := some 93) #[true, true, true, true, true, true, false, false, false] #[true, true, false, true, true, true, true, false, false] rfl rfl rfl rfl (by kernel_rfl) (by decide) (by decide) (fun K hK => ?_) (fun K hK => ?_)
                                              · skip
                                                refine Kd.R_append_rows_step k25 (w0 := w) w.heap.size (by rfl) (.tmp 87) (.tmp 88) 22 25 (.agg #[(.int .i64 0), (.int .i64 0), (.int .i64 0), (.int .i64 0), (.int .i64 0), (.int .i64 0), (.int .i64 0)]) 56 rfl Tryd.underlying22 info25 rfl (by decide) (by omega) v201 y200 t192 _ _ _ (fun k_ => some k_ ≠ (.slice (some ad206) t192.length co51 : Value).ownBlock) (fun _ => False) rfl rfl ?aO ?aR (fun _ _ h => h) (fun _ h => h.elim) ?aF ?aB ?aS ?aL ?_
                                                (case aR => repeat (first | exact (Kd.R_reads' HO_15.out).2.2 | (with_reducible refine Kd.C_alloc ?_ _) | (with_reducible refine Kd.C_drewN ?_ _) | (with_reducible refine Kd.C_drew ?_)))
                                                (case aB => exact (by repeat (first | (with_reducible first | exact HB.out | apply below_alloc | apply pw_below_drewN | apply below_drew1) | exact HB.out)))
                                                (case aF => exact (fun k_ hk => Kd.fresh' (Kd.R_lt (by (with_reducible repeat (first | apply Kd.R_alloc | apply Kd.R_drewN | apply Kd.R_drew)); exact HO_15.out)) k_ hk))
                                                (case aO => exact (by (with_reducible repeat (first | apply Kd.R_alloc | apply Kd.R_drewN | apply Kd.R_drew)); exact Kd.R_mono HO202.out (fun _ hk => hk.2)))
                                                (case aS => exact (below_size (by repeat (first | (with_reducible first | exact HB.out | apply below_alloc | apply pw_below_drewN | apply below_drew1) | exact HB.out))))
                                                (case aL => have := LMc33.out; omega)
                                                intro v204 wA ho hb hg hat
                                                rw [← Ny203.out] at ho
                                                (try clear HO202x)
                                                have n0_ := Aside0.mk (Kd.R_after (ok := (fun k_ => True)) (by (with_reducible repeat (first | apply Kd.R_alloc | apply Kd.R_drewN | apply Kd.R_drew)); exact Kd.R_mono HO_15.out (fun _ hk => hk)) hg hat)
                                                have n1_ := Aside0.mk (hb)
                                                have n2_ := Aside0.mk (ho)
                                                (try clear HO_15)
                                                (try clear HB)
                                                (try clear HO205)
                                                have HO_15 := n0_
                                                have HB := n1_
                                                have HO205 := n2_
                                                clear n0_ n1_ n2_
                                                clear HO202 ho hb hg hat
                                                refine hK.out _ _ (held7_ (Kd.R_reads' HO_15.out).2.2 HQ.out) (fun hHeld => ?_)
                                                clear hK K
                                                refine norm_ (a' := ?_) ?_ ?_
                                                rotate_left
                                                · show Act.put _ (some 89) _ = _
                                                  simp only [Act.put, List.setIfInBounds_toArray, List.set_cons_zero, List.set_cons_succ, i64_w, i32_w]
                                                  rfl
                                                refine one_ (i := 6) (N := some 93) #[true, true, true, true, true, true, true, false, false] rfl rfl (by kernel_rfl) (by decide) (fun K hK => ?_)
                                                refine Kd.R_lit_step k25 _ 25 ?hg (N := 93) ?hd (xs := ([(⟨(rd_T25 t192 0).f0, (⟨(rd_T25 t192 0).f1.f0, (rd_T25 t192 0).f1.f1⟩ : S23), (⟨(rd_T25 t192 0).f2.f0, (rd_T25 t192 0).f2.f1⟩ : S23), (⟨(rd_T25 t192 0).f3.f0, (rd_T25 t192 0).f3.f1⟩ : S23)⟩ : S25)] : List (S25))) (inner := [.int .i64 ((rd_T25 t192 0).f0), .int .i64 ((rd_T25 t192 0).f1.f0), .int .i64 ((rd_T25 t192 0).f1.f1), .int .i64 ((rd_T25 t192 0).f2.f0), .int .i64 ((rd_T25 t192 0).f2.f1), .int .i64 ((rd_T25 t192 0).f3.f0), .int .i64 ((rd_T25 t192 0).f3.f1)]) (ok := fun _ => True) (okp := fun _ => True) ?hr ?hp (fun _ hk => hk) trivial (Below.refl _ _) (Nat.le_refl _) (by simp) ?_; (case hd => rfl); (case hg => rfl); (case hr => first | (go_simp; done) | (go_simp; rfl)); (case hp => exact (Reps.c7 (show Kd.M k25 _ _ _ ((⟨(rd_T25 t192 0).f0, (⟨(rd_T25 t192 0).f1.f0, (rd_T25 t192 0).f1.f1⟩ : S23), (⟨(rd_T25 t192 0).f2.f0, (rd_T25 t192 0).f2.f1⟩ : S23), (⟨(rd_T25 t192 0).f3.f0, (rd_T25 t192 0).f3.f1⟩ : S23)⟩ : S25)) [.int .i64 ((rd_T25 t192 0).f0), .int .i64 ((rd_T25 t192 0).f1.f0), .int .i64 ((rd_T25 t192 0).f1.f1), .int .i64 ((rd_T25 t192 0).f2.f0), .int .i64 ((rd_T25 t192 0).f2.f1), .int .i64 ((rd_T25 t192 0).f3.f0), .int .i64 ((rd_T25 t192 0).f3.f1)] from (k25_mkM _ _ _ ((⟨(rd_T25 t192 0).f0, (⟨(rd_T25 t192 0).f1.f0, (rd_T25 t192 0).f1.f1⟩ : S23), (⟨(rd_T25 t192 0).f2.f0, (rd_T25 t192 0).f2.f1⟩ : S23), (⟨(rd_T25 t192 0).f3.f0, (rd_T25 t192 0).f3.f1⟩ : S23)⟩ : S25)) )) (Reps.none _ _)))
                                                intro vt wL ho hb hg_ hnew_
                                                clear hg_ hnew_
                                                (first | rw [← Nyt.out] at ho | (simp only [Int.reduceToNat] at ho; rw [← Nyt.out] at ho))
                                                have n0_ := Aside0.mk (Kd.R_elder' (by (with_reducible repeat (first | apply Kd.R_alloc | apply Kd.R_drewN | apply Kd.R_drew)); exact HO_15.out) (Kd.R_base ho) hb)
                                                have n1_ := Aside0.mk (Kd.R_elder' (by (with_reducible repeat (first | apply Kd.R_alloc | apply Kd.R_drewN | apply Kd.R_drew)); exact HO205.out) (Kd.R_base ho) hb)
                                                have n2_ := Aside0.mk (Kd.R_lower (Kd.R_new' (Kd.R_new' ho (Kd.R_lt (by (with_reducible repeat (first | apply Kd.R_alloc | apply Kd.R_drewN | apply Kd.R_drew)); exact HO_15.out))) (Kd.R_lt (by (with_reducible repeat (first | apply Kd.R_alloc | apply Kd.R_drewN | apply Kd.R_drew)); exact HO205.out))) (below_size (by repeat (first | (with_reducible first | exact HB.out | apply below_alloc | apply pw_below_drewN | apply below_drew1) | exact HB.out))))
                                                have n3_ := Aside0.mk (below_step (by repeat (first | (with_reducible first | exact HB.out | apply below_alloc | apply pw_below_drewN | apply below_drew1) | exact HB.out)) hb)
                                                (try clear HO_15)
                                                (try clear HO205)
                                                (try clear HOt)
                                                (try clear HB)
                                                have HO_15 := n0_
                                                have HO205 := n1_
                                                have HOt := n2_
                                                have HB := n3_
                                                clear n0_ n1_ n2_ n3_
                                                clear hb ho
                                                refine hK.out _ _ (held7_ (Kd.R_reads' HO_15.out).2.2 HQ.out) (fun hHeld => ?_)
                                                clear hK K
                                                refine norm_ (a' := ?_) ?_ ?_
                                                rotate_left
                                                · show Act.put _ (some 93) _ = _
                                                  simp only [Act.put, List.setIfInBounds_toArray, List.set_cons_zero, List.set_cons_succ, i64_w, i32_w]
                                                  rfl
                                                exact norm_ (by simp only [putAll, Act.put, List.setIfInBounds_toArray, List.set_cons_zero, List.set_cons_succ]) (hCont (v201, v204, vt) _ ⟨hHeld, (by (with_reducible repeat (first | apply Kd.R_alloc | apply Kd.R_drewN | apply Kd.R_drew)); exact Kd.R_mono HO205.out (fun _ hk => ⟨hk.2, hk.1⟩)), (by (with_reducible repeat (first | apply Kd.R_alloc | apply Kd.R_drewN | apply Kd.R_drew)); exact Kd.R_mono HOt.out (fun _ hk => ⟨hk.2, hk.1.2⟩)), (by (with_reducible repeat (first | apply Kd.R_alloc | apply Kd.R_drewN | apply Kd.R_drew)); exact Kd.R_mono HO_15.out (fun _ hk => ⟨hk.1.2, hk.2⟩)), (by repeat (first | (with_reducible first | exact HB.out | apply below_alloc | apply pw_below_drewN | apply below_drew1) | exact HB.out))⟩)
                                              · skip
                                                refine Kd.R_lit_step k25 _ 25 ?hg (N := 93) ?hd (xs := ([(⟨(rd_T25 t192 0).f0, (⟨(rd_T25 t192 0).f1.f0, (rd_T25 t192 0).f1.f1⟩ : S23), (⟨(rd_T25 t192 0).f2.f0, (rd_T25 t192 0).f2.f1⟩ : S23), (⟨(rd_T25 t192 0).f3.f0, (rd_T25 t192 0).f3.f1⟩ : S23)⟩ : S25)] : List (S25))) (inner := [.int .i64 ((rd_T25 t192 0).f0), .int .i64 ((rd_T25 t192 0).f1.f0), .int .i64 ((rd_T25 t192 0).f1.f1), .int .i64 ((rd_T25 t192 0).f2.f0), .int .i64 ((rd_T25 t192 0).f2.f1), .int .i64 ((rd_T25 t192 0).f3.f0), .int .i64 ((rd_T25 t192 0).f3.f1)]) (ok := fun _ => True) (okp := fun _ => True) ?hr ?hp (fun _ hk => hk) trivial (Below.refl _ _) (Nat.le_refl _) (by simp) ?_; (case hd => rfl); (case hg => rfl); (case hr => first | (go_simp; done) | (go_simp; rfl)); (case hp => exact (Reps.c7 (show Kd.M k25 _ _ _ ((⟨(rd_T25 t192 0).f0, (⟨(rd_T25 t192 0).f1.f0, (rd_T25 t192 0).f1.f1⟩ : S23), (⟨(rd_T25 t192 0).f2.f0, (rd_T25 t192 0).f2.f1⟩ : S23), (⟨(rd_T25 t192 0).f3.f0, (rd_T25 t192 0).f3.f1⟩ : S23)⟩ : S25)) [.int .i64 ((rd_T25 t192 0).f0), .int .i64 ((rd_T25 t192 0).f1.f0), .int .i64 ((rd_T25 t192 0).f1.f1), .int .i64 ((rd_T25 t192 0).f2.f0), .int .i64 ((rd_T25 t192 0).f2.f1), .int .i64 ((rd_T25 t192 0).f3.f0), .int .i64 ((rd_T25 t192 0).f3.f1)] from (k25_mkM _ _ _ ((⟨(rd_T25 t192 0).f0, (⟨(rd_T25 t192 0).f1.f0, (rd_T25 t192 0).f1.f1⟩ : S23), (⟨(rd_T25 t192 0).f2.f0, (rd_T25 t192 0).f2.f1⟩ : S23), (⟨(rd_T25 t192 0).f3.f0, (rd_T25 t192 0).f3.f1⟩ : S23)⟩ : S25)) )) (Reps.none _ _)))
                                                intro vt wL ho hb hg_ hnew_
                                                clear hg_ hnew_
                                                (first | rw [← Nyt.out] at ho | (simp only [Int.reduceToNat] at ho; rw [← Nyt.out] at ho))
                                                have n0_ := Aside0.mk (Kd.R_elder' (by (with_reducible repeat (first | apply Kd.R_alloc | apply Kd.R_drewN | apply Kd.R_drew)); exact HO_15.out) (Kd.R_base ho) hb)
                                                have n1_ := Aside0.mk (Kd.R_elder' (by (with_reducible repeat (first | apply Kd.R_alloc | apply Kd.R_drewN | apply Kd.R_drew)); exact HO202.out) (Kd.R_base ho) hb)
                                                have n2_ := Aside0.mk (Kd.R_lower (Kd.R_new' (Kd.R_new' ho (Kd.R_lt (by (with_reducible repeat (first | apply Kd.R_alloc | apply Kd.R_drewN | apply Kd.R_drew)); exact HO_15.out))) (Kd.R_lt (by (with_reducible repeat (first | apply Kd.R_alloc | apply Kd.R_drewN | apply Kd.R_drew)); exact HO202.out))) (below_size (by repeat (first | (with_reducible first | exact HB.out | apply below_alloc | apply pw_below_drewN | apply below_drew1) | exact HB.out))))
                                                have n3_ := Aside0.mk (below_step (by repeat (first | (with_reducible first | exact HB.out | apply below_alloc | apply pw_below_drewN | apply below_drew1) | exact HB.out)) hb)
                                                (try clear HO_15)
                                                (try clear HO202)
                                                (try clear HOt)
                                                (try clear HB)
                                                have HO_15 := n0_
                                                have HO202 := n1_
                                                have HOt := n2_
                                                have HB := n3_
                                                clear n0_ n1_ n2_ n3_
                                                clear hb ho
                                                refine hK.out _ _ (held7_ (Kd.R_reads' HO_15.out).2.2 HQ.out) (fun hHeld => ?_)
                                                clear hK K
                                                refine norm_ (a' := ?_) ?_ ?_
                                                rotate_left
                                                · show Act.put _ (some 93) _ = _
                                                  simp only [Act.put, List.setIfInBounds_toArray, List.set_cons_zero, List.set_cons_succ, i64_w, i32_w]
                                                  rfl
                                                refine one_ (i := 2) (N := some 89) #[true, true, true, true, true, true, true, false, false] rfl rfl (by kernel_rfl) (by decide) (fun K hK => ?_)
                                                refine Kd.R_append_rows_step k25 (w0 := w) w.heap.size (by rfl) (.tmp 87) (.tmp 88) 22 25 (.agg #[(.int .i64 0), (.int .i64 0), (.int .i64 0), (.int .i64 0), (.int .i64 0), (.int .i64 0), (.int .i64 0)]) 56 rfl Tryd.underlying22 info25 rfl (by decide) (by omega) v201 y200 t192 _ _ _ (fun k_ => some k_ ≠ (.slice (some ad206) t192.length co51 : Value).ownBlock ∧ some k_ ≠ (vt : Value).ownBlock) (fun _ => False) rfl rfl ?aO ?aR (fun _ _ h => h) (fun _ h => h.elim) ?aF ?aB ?aS ?aL ?_
                                                (case aR => repeat (first | exact (Kd.R_reads' HO_15.out).2.2 | (with_reducible refine Kd.C_alloc ?_ _) | (with_reducible refine Kd.C_drewN ?_ _) | (with_reducible refine Kd.C_drew ?_)))
                                                (case aB => exact (by repeat (first | (with_reducible first | exact HB.out | apply below_alloc | apply pw_below_drewN | apply below_drew1) | exact HB.out)))
                                                (case aF => exact (fun k_ hk => ⟨Kd.fresh' (Kd.R_lt (by (with_reducible repeat (first | apply Kd.R_alloc | apply Kd.R_drewN | apply Kd.R_drew)); exact HO_15.out)) k_ hk, Kd.fresh' (Kd.R_lt (by (with_reducible repeat (first | apply Kd.R_alloc | apply Kd.R_drewN | apply Kd.R_drew)); exact HOt.out)) k_ hk⟩))
                                                (case aO => exact (by (with_reducible repeat (first | apply Kd.R_alloc | apply Kd.R_drewN | apply Kd.R_drew)); exact Kd.R_mono HO202.out (fun _ hk => ⟨hk.1.2, hk.2⟩)))
                                                (case aS => exact (below_size (by repeat (first | (with_reducible first | exact HB.out | apply below_alloc | apply pw_below_drewN | apply below_drew1) | exact HB.out))))
                                                (case aL => have := LMc33.out; omega)
                                                intro v204 wA ho hb hg hat
                                                rw [← Ny203.out] at ho
                                                (try clear HO202x)
                                                have n0_ := Aside0.mk (Kd.R_after (ok := (fun k_ => some k_ ≠ (vt : Value).ownBlock)) (by (with_reducible repeat (first | apply Kd.R_alloc | apply Kd.R_drewN | apply Kd.R_drew)); exact Kd.R_mono HO_15.out (fun _ hk => ⟨hk.2, hk.1.2⟩)) hg hat)
                                                have n1_ := Aside0.mk (Kd.R_after (ok := (fun k_ => some k_ ≠ (.slice (some ad206) t192.length co51 : Value).ownBlock)) (by (with_reducible repeat (first | apply Kd.R_alloc | apply Kd.R_drewN | apply Kd.R_drew)); exact Kd.R_mono HOt.out (fun _ hk => ⟨hk.1.2, hk.2⟩)) hg hat)
                                                have n2_ := Aside0.mk (hb)
                                                have n3_ := Aside0.mk (ho)
                                                (try clear HO_15)
                                                (try clear HOt)
                                                (try clear HB)
                                                (try clear HO205)
                                                have HO_15 := n0_
                                                have HOt := n1_
                                                have HB := n2_
                                                have HO205 := n3_
                                                clear n0_ n1_ n2_ n3_
                                                clear HO202 ho hb hg hat
                                                refine hK.out _ _ (held7_ (Kd.R_reads' HO_15.out).2.2 HQ.out) (fun hHeld => ?_)
                                                clear hK K
                                                refine norm_ (a' := ?_) ?_ ?_
                                                rotate_left
                                                · show Act.put _ (some 89) _ = _
                                                  simp only [Act.put, List.setIfInBounds_toArray, List.set_cons_zero, List.set_cons_succ, i64_w, i32_w]
                                                  rfl
                                                exact norm_ (by simp only [putAll, Act.put, List.setIfInBounds_toArray, List.set_cons_zero, List.set_cons_succ]) (hCont (v201, v204, vt) _ ⟨hHeld, (by (with_reducible repeat (first | apply Kd.R_alloc | apply Kd.R_drewN | apply Kd.R_drew)); exact Kd.R_mono HO205.out (fun _ hk => ⟨hk.2, hk.1⟩)), (by (with_reducible repeat (first | apply Kd.R_alloc | apply Kd.R_drewN | apply Kd.R_drew)); exact Kd.R_mono HOt.out (fun _ hk => ⟨hk.2, hk.1⟩)), (by (with_reducible repeat (first | apply Kd.R_alloc | apply Kd.R_drewN | apply Kd.R_drew)); exact Kd.R_mono HO_15.out (fun _ hk => ⟨hk.2, hk.1⟩)), (by repeat (first | (with_reducible first | exact HB.out | apply below_alloc | apply pw_below_drewN | apply below_drew1) | exact HB.out))⟩)
                                            · skip
                                              refine Kd.R_lit_step k25 _ 25 ?hg (N := 93) ?hd (xs := ([(⟨(rd_T25 t192 0).f0, (⟨(rd_T25 t192 0).f1.f0, (rd_T25 t192 0).f1.f1⟩ : S23), (⟨(rd_T25 t192 0).f2.f0, (rd_T25 t192 0).f2.f1⟩ : S23), (⟨(rd_T25 t192 0).f3.f0, (rd_T25 t192 0).f3.f1⟩ : S23)⟩ : S25)] : List (S25))) (inner := [.int .i64 ((rd_T25 t192 0).f0), .int .i64 ((rd_T25 t192 0).f1.f0), .int .i64 ((rd_T25 t192 0).f1.f1), .int .i64 ((rd_T25 t192 0).f2.f0), .int .i64 ((rd_T25 t192 0).f2.f1), .int .i64 ((rd_T25 t192 0).f3.f0), .int .i64 ((rd_T25 t192 0).f3.f1)]) (ok := fun _ => True) (okp := fun _ => True) ?hr ?hp (fun _ hk => hk) trivial (Below.refl _ _) (Nat.le_refl _) (by simp) ?_; (case hd => rfl); (case hg => rfl); (case hr => first | (go_simp; done) | (go_simp; rfl)); (case hp => exact (Reps.c7 (show Kd.M k25 _ _ _ ((⟨(rd_T25 t192 0).f0, (⟨(rd_T25 t192 0).f1.f0, (rd_T25 t192 0).f1.f1⟩ : S23), (⟨(rd_T25 t192 0).f2.f0, (rd_T25 t192 0).f2.f1⟩ : S23), (⟨(rd_T25 t192 0).f3.f0, (rd_T25 t192 0).f3.f1⟩ : S23)⟩ : S25)) [.int .i64 ((rd_T25 t192 0).f0), .int .i64 ((rd_T25 t192 0).f1.f0), .int .i64 ((rd_T25 t192 0).f1.f1), .int .i64 ((rd_T25 t192 0).f2.f0), .int .i64 ((rd_T25 t192 0).f2.f1), .int .i64 ((rd_T25 t192 0).f3.f0), .int .i64 ((rd_T25 t192 0).f3.f1)] from (k25_mkM _ _ _ ((⟨(rd_T25 t192 0).f0, (⟨(rd_T25 t192 0).f1.f0, (rd_T25 t192 0).f1.f1⟩ : S23), (⟨(rd_T25 t192 0).f2.f0, (rd_T25 t192 0).f2.f1⟩ : S23), (⟨(rd_T25 t192 0).f3.f0, (rd_T25 t192 0).f3.f1⟩ : S23)⟩ : S25)) )) (Reps.none _ _)))
                                              intro vt wL ho hb hg_ hnew_
                                              clear hg_ hnew_
                                              (first | rw [← Nyt.out] at ho | (simp only [Int.reduceToNat] at ho; rw [← Nyt.out] at ho))
                                              have n0_ := Aside0.mk (Kd.R_elder' (by (with_reducible repeat (first | apply Kd.R_alloc | apply Kd.R_drewN | apply Kd.R_drew)); exact HO_15.out) (Kd.R_base ho) hb)
                                              have n1_ := Aside0.mk (Kd.R_lower (Kd.R_new' ho (Kd.R_lt (by (with_reducible repeat (first | apply Kd.R_alloc | apply Kd.R_drewN | apply Kd.R_drew)); exact HO_15.out))) (below_size (by repeat (first | (with_reducible first | exact HB.out | apply below_alloc | apply pw_below_drewN | apply below_drew1) | exact HB.out))))
                                              have n2_ := Aside0.mk (below_step (by repeat (first | (with_reducible first | exact HB.out | apply below_alloc | apply pw_below_drewN | apply below_drew1) | exact HB.out)) hb)
                                              (try clear HO_15)
                                              (try clear HOt)
                                              (try clear HB)
                                              have HO_15 := n0_
                                              have HOt := n1_
                                              have HB := n2_
                                              clear n0_ n1_ n2_
                                              clear hb ho
                                              refine hK.out _ _ (held7_ (Kd.R_reads' HO_15.out).2.2 HQ.out) (fun hHeld => ?_)
                                              clear hK K
                                              refine norm_ (a' := ?_) ?_ ?_
                                              rotate_left
                                              · show Act.put _ (some 93) _ = _
                                                simp only [Act.put, List.setIfInBounds_toArray, List.set_cons_zero, List.set_cons_succ, i64_w, i32_w]
                                                rfl
                                              refine one_ (i := 0) (N := some 87) #[true, true, false, true, true, true, true, false, false] rfl rfl (by kernel_rfl) (by decide) (fun K hK => ?_)
                                              refine Kd.R_lit_step k25 _ 25 ?hg (N := 87) ?hd (xs := ([] : List (S25))) (inner := []) (ok := fun _ => True) (okp := fun _ => True) ?hr ?hp (fun _ hk => hk) trivial (Below.refl _ _) (Nat.le_refl _) (by simp) ?_; (case hd => rfl); (case hg => rfl); (case hr => first | (go_simp; done) | (go_simp; rfl)); (case hp => exact (Reps.none _ _))
                                              intro v201 wL ho hb hg_ hnew_
                                              clear hg_ hnew_
                                              (first | rw [← Ny200.out] at ho | (simp only [Int.reduceToNat] at ho; rw [← Ny200.out] at ho))
                                              have n0_ := Aside0.mk (Kd.R_elder' (by (with_reducible repeat (first | apply Kd.R_alloc | apply Kd.R_drewN | apply Kd.R_drew)); exact HO_15.out) (Kd.R_base ho) hb)
                                              have n1_ := Aside0.mk (Kd.R_elder' (by (with_reducible repeat (first | apply Kd.R_alloc | apply Kd.R_drewN | apply Kd.R_drew)); exact HOt.out) (Kd.R_base ho) hb)
                                              have n2_ := Aside0.mk (Kd.R_lower (Kd.R_new' (Kd.R_new' ho (Kd.R_lt (by (with_reducible repeat (first | apply Kd.R_alloc | apply Kd.R_drewN | apply Kd.R_drew)); exact HO_15.out))) (Kd.R_lt (by (with_reducible repeat (first | apply Kd.R_alloc | apply Kd.R_drewN | apply Kd.R_drew)); exact HOt.out))) (below_size (by repeat (first | (with_reducible first | exact HB.out | apply below_alloc | apply pw_below_drewN | apply below_drew1) | exact HB.out))))
                                              have n3_ := Aside0.mk (below_step (by repeat (first | (with_reducible first | exact HB.out | apply below_alloc | apply pw_below_drewN | apply below_drew1) | exact HB.out)) hb)
                                              (try clear HO_15)
                                              (try clear HOt)
                                              (try clear HO202)
                                              (try clear HB)
                                              have HO_15 := n0_
                                              have HOt := n1_
                                              have HO202 := n2_
                                              have HB := n3_
                                              clear n0_ n1_ n2_ n3_
                                              clear hb ho
                                              refine hK.out _ _ (held7_ (Kd.R_reads' HO_15.out).2.2 HQ.out) (fun hHeld => ?_)
                                              clear hK K
                                              refine norm_ (a' := ?_) ?_ ?_
                                              rotate_left
                                              · show Act.put _ (some 87) _ = _
                                                simp only [Act.put, List.setIfInBounds_toArray, List.set_cons_zero, List.set_cons_succ, i64_w, i32_w]
                                                rfl
                                              refine one_ (i := 2) (N := some 89) #[true, true, true, true, true, true, true, false, false] rfl rfl (by kernel_rfl) (by decide) (fun K hK => ?_)
                                              refine Kd.R_append_rows_step k25 (w0 := w) w.heap.size (by rfl) (.tmp 87) (.tmp 88) 22 25 (.agg #[(.int .i64 0), (.int .i64 0), (.int .i64 0), (.int .i64 0), (.int .i64 0), (.int .i64 0), (.int .i64 0)]) 56 rfl Tryd.underlying22 info25 rfl (by decide) (by omega) v201 y200 t192 _ _ _ (fun k_ => some k_ ≠ (.slice (some ad206) t192.length co51 : Value).ownBlock ∧ some k_ ≠ (vt : Value).ownBlock) (fun _ => False) rfl rfl ?aO ?aR (fun _ _ h => h) (fun _ h => h.elim) ?aF ?aB ?aS ?aL ?_
                                              (case aR => repeat (first | exact (Kd.R_reads' HO_15.out).2.2 | (with_reducible refine Kd.C_alloc ?_ _) | (with_reducible refine Kd.C_drewN ?_ _) | (with_reducible refine Kd.C_drew ?_)))
                                              (case aB => exact (by repeat (first | (with_reducible first | exact HB.out | apply below_alloc | apply pw_below_drewN | apply below_drew1) | exact HB.out)))
                                              (case aF => exact (fun k_ hk => ⟨Kd.fresh' (Kd.R_lt (by (with_reducible repeat (first | apply Kd.R_alloc | apply Kd.R_drewN | apply Kd.R_drew)); exact HO_15.out)) k_ hk, Kd.fresh' (Kd.R_lt (by (with_reducible repeat (first | apply Kd.R_alloc | apply Kd.R_drewN | apply Kd.R_drew)); exact HOt.out)) k_ hk⟩))
                                              (case aO => exact (by (with_reducible repeat (first | apply Kd.R_alloc | apply Kd.R_drewN | apply Kd.R_drew)); exact Kd.R_mono HO202.out (fun _ hk => ⟨hk.1.2, hk.2⟩)))
                                              (case aS => exact (below_size (by repeat (first | (with_reducible first | exact HB.out | apply below_alloc | apply pw_below_drewN | apply below_drew1) | exact HB.out))))
                                              (case aL => have := LMc33.out; omega)
                                              intro v204 wA ho hb hg hat
                                              rw [← Ny203.out] at ho
                                              (try clear HO202x)
                                              have n0_ := Aside0.mk (Kd.R_after (ok := (fun k_ => some k_ ≠ (vt : Value).ownBlock)) (by (with_reducible repeat (first | apply Kd.R_alloc | apply Kd.R_drewN | apply Kd.R_drew)); exact Kd.R_mono HO_15.out (fun _ hk => ⟨hk.1.2, hk.2⟩)) hg hat)
                                              have n1_ := Aside0.mk (Kd.R_after (ok := (fun k_ => some k_ ≠ (.slice (some ad206) t192.length co51 : Value).ownBlock)) (by (with_reducible repeat (first | apply Kd.R_alloc | apply Kd.R_drewN | apply Kd.R_drew)); exact Kd.R_mono HOt.out (fun _ hk => ⟨hk.1.2, hk.2⟩)) hg hat)
                                              have n2_ := Aside0.mk (hb)
                                              have n3_ := Aside0.mk (ho)
                                              (try clear HO_15)
                                              (try clear HOt)
                                              (try clear HB)
                                              (try clear HO205)
                                              have HO_15 := n0_
                                              have HOt := n1_
                                              have HB := n2_
                                              have HO205 := n3_
                                              clear n0_ n1_ n2_ n3_
                                              clear HO202 ho hb hg hat
                                              refine hK.out _ _ (held7_ (Kd.R_reads' HO_15.out).2.2 HQ.out) (fun hHeld => ?_)
                                              clear hK K
                                              refine norm_ (a' := ?_) ?_ ?_
                                              rotate_left
                                              · show Act.put _ (some 89) _ = _
                                                simp only [Act.put, List.setIfInBounds_toArray, List.set_cons_zero, List.set_cons_succ, i64_w, i32_w]
                                                rfl
                                              exact norm_ (by simp only [putAll, Act.put, List.setIfInBounds_toArray, List.set_cons_zero, List.set_cons_succ]) (hCont (v201, v204, vt) _ ⟨hHeld, (by (with_reducible repeat (first | apply Kd.R_alloc | apply Kd.R_drewN | apply Kd.R_drew)); exact Kd.R_mono HO205.out (fun _ hk => ⟨hk.2, hk.1⟩)), (by (with_reducible repeat (first | apply Kd.R_alloc | apply Kd.R_drewN | apply Kd.R_drew)); exact Kd.R_mono HOt.out (fun _ hk => ⟨hk.2, hk.1⟩)), (by (with_reducible repeat (first | apply Kd.R_alloc | apply Kd.R_drewN | apply Kd.R_drew)); exact Kd.R_mono HO_15.out (fun _ hk => ⟨hk.2, hk.1⟩)), (by repeat (first | (with_reducible first | exact HB.out | apply below_alloc | apply pw_below_drewN | apply below_drew1) | exact HB.out))⟩)
                                          rintro ⟨v201, v204, vt⟩ w51 ⟨hS_, h0_, h1_, h2_, h4_⟩
                                          have n0_ : Aside0 (Kd.R k25 25 w51 w.heap.size (fun k_ => some k_ ≠ (vt : Value).ownBlock ∧ some k_ ≠ (.slice (some ad206) t192.length co51 : Value).ownBlock) v204 y203) := ⟨h0_⟩
                                          have n1_ : Aside0 (Kd.R k25 25 w51 w.heap.size (fun k_ => some k_ ≠ (v204 : Value).ownBlock ∧ some k_ ≠ (.slice (some ad206) t192.length co51 : Value).ownBlock) vt yt) := ⟨h1_⟩
                                          have n2_ : Aside0 (Kd.R k25 25 w51 w.heap.size (fun k_ => some k_ ≠ (v204 : Value).ownBlock ∧ some k_ ≠ (vt : Value).ownBlock) (.slice (some ad206) t192.length co51) t192) := ⟨h2_⟩
                                          have n4_ : Aside0 (Below w.heap.size w w51) := ⟨h4_⟩
                                          clear HO_15 HB h0_ h1_ h2_ h4_
                                          have HO205 := n0_
                                          have HOt := n1_
                                          have HO_15 := n2_
                                          have HB := n4_
                                          clear n0_ n1_ n2_ n4_
                                          have hHeld : w51.cell? ad206 = some (.int .i64 ((rd_T25 t192 0).f0)) ∧ w51.cell? ⟨ad206.block, ad206.off + 1, none⟩ = some (.int .i64 ((rd_T25 t192 0).f1.f0)) ∧ w51.cell? ⟨ad206.block, ad206.off + 2, none⟩ = some (.int .i64 ((rd_T25 t192 0).f1.f1)) ∧ w51.cell? ⟨ad206.block, ad206.off + 3, none⟩ = some (.int .i64 ((rd_T25 t192 0).f2.f0)) ∧ w51.cell? ⟨ad206.block, ad206.off + 4, none⟩ = some (.int .i64 ((rd_T25 t192 0).f2.f1)) ∧ w51.cell? ⟨ad206.block, ad206.off + 5, none⟩ = some (.int .i64 ((rd_T25 t192 0).f3.f0)) ∧ w51.cell? ⟨ad206.block, ad206.off + 6, none⟩ = some (.int .i64 ((rd_T25 t192 0).f3.f1)) := hS_
                                          clear hS_
                                          obtain ⟨At, ct, et⟩ := Kd.R_slice HOt.out
                                          (first | subst et | (injection et with f1_ f2_ f3_; have f4_ := f1_.symm; have f5_ := f3_.symm; clear f1_ f2_ f3_; subst f4_; subst f5_))
                                          refine norm_ (a' := ?_) ?_ ?_
                                          rotate_left
                                          · simp only [putAll, Act.put, List.setIfInBounds_toArray, List.set_cons_zero, List.set_cons_succ]
                                            rfl
                                          refine one_ (i := 7) (N := some 94) #[true, true, true, true, true, true, true, true, false] rfl rfl (by kernel_rfl) (by decide) (fun K hK => ?_)
                                          refine Kd.R_append_rows_step k25 (w0 := w) w.heap.size (by rfl) (.tmp 89) (.tmp 93) 22 25 (.agg #[(.int .i64 0), (.int .i64 0), (.int .i64 0), (.int .i64 0), (.int .i64 0), (.int .i64 0), (.int .i64 0)]) 56 rfl Tryd.underlying22 info25 rfl (by decide) (by omega) v204 y203 yt _ _ _ (fun k_ => some k_ ≠ (.slice (some ad206) t192.length co51 : Value).ownBlock ∧ some k_ ≠ (.slice At yt.length ct : Value).ownBlock) (fun _ => False) rfl rfl ?aO ?aR (fun _ _ h => h) (fun _ h => h.elim) ?aF ?aB ?aS ?aL ?_
                                          (case aR => repeat (first | exact (Kd.R_reads' HOt.out).2.2 | (with_reducible refine Kd.C_alloc ?_ _) | (with_reducible refine Kd.C_drewN ?_ _) | (with_reducible refine Kd.C_drew ?_)))
                                          (case aB => exact (by repeat (first | (with_reducible first | exact HB.out | apply below_alloc | apply pw_below_drewN | apply below_drew1) | exact HB.out)))
                                          (case aF => exact (fun k_ hk => ⟨Kd.fresh' (Kd.R_lt (by (with_reducible repeat (first | apply Kd.R_alloc | apply Kd.R_drewN | apply Kd.R_drew)); exact HO_15.out)) k_ hk, Kd.fresh' (Kd.R_lt (by (with_reducible repeat (first | apply Kd.R_alloc | apply Kd.R_drewN | apply Kd.R_drew)); exact HOt.out)) k_ hk⟩))
                                          (case aO => exact (by (with_reducible repeat (first | apply Kd.R_alloc | apply Kd.R_drewN | apply Kd.R_drew)); exact Kd.R_mono HO205.out (fun _ hk => ⟨hk.2, hk.1⟩)))
                                          (case aS => exact (below_size (by repeat (first | (with_reducible first | exact HB.out | apply below_alloc | apply pw_below_drewN | apply below_drew1) | exact HB.out))))
                                          (case aL => have := LMc35.out; have := LYt.out; omega)
                                          intro v208 w52 ho hb hg hat
                                          rw [Nyt.out, ← Ny207.out] at ho
                                          have n0_ := Aside0.mk (Kd.R_after (ok := (fun k_ => some k_ ≠ (.slice At yt.length ct : Value).ownBlock)) (by (with_reducible repeat (first | apply Kd.R_alloc | apply Kd.R_drewN | apply Kd.R_drew)); exact Kd.R_mono HO_15.out (fun _ hk => ⟨hk.2, hk.1⟩)) hg hat)
                                          have n1_ := Aside0.mk (hb)
                                          have n2_ := Aside0.mk (ho)
                                          (try clear HO_15)
                                          (try clear HB)
                                          (try clear HO209)
                                          have HO_15 := n0_
                                          have HB := n1_
                                          have HO209 := n2_
                                          clear n0_ n1_ n2_
                                          clear HO205 HOt ho hb hg hat
                                          refine hK.out _ _ (held7_ (Kd.R_reads' HO_15.out).2.2 HQ.out) (fun hHeld => ?_)
                                          clear hK K
                                          refine norm_ (a' := ?_) ?_ ?_
                                          rotate_left
                                          · show Act.put _ (some 94) _ = _
                                            simp only [Act.put, List.setIfInBounds_toArray, List.set_cons_zero, List.set_cons_succ, i64_w, i32_w]
                                            rfl
                                          refine pure_ (i := 8) (N := some 22) (v := ?_) (a' := ?_) #[true, true, true, true, true, true, true, true, true] rfl rfl (by kernel_rfl) (fun _ _ _ h => h) (Or.inl ⟨by rfl, ?_⟩) ?_ ?_
                                          rotate_left
                                          · intro w'
                                            go_simp
                                            with_reducible rfl
                                          rotate_left
                                          · simp only [Act.put, List.setIfInBounds_toArray, List.set_cons_zero, List.set_cons_succ, i64_w, i32_w]
                                            rfl
                                          refine done_ (by kernel_rfl) ?_
                                          clear hHeld
                                          have q53 : ((ji37) : Int) ≤ ((t192.length : Int) : Int) := of_decide_eq_true (by first | (with_reducible assumption) | assumption)
                                          obtain ⟨i053, hi053, _, hsz53, _⟩ := info_parts info25
                                          have hroom53 : t192.length ≤ co51 := (Kd.R_reads' HO_15.out).2.1
                                          have hC53 : Kd.C k25 _ (some ad206) t192.length t192 := (Kd.R_reads' HO_15.out).2.2
                                          have hcut53 := cut_to (P := Tryd.prog) 22 25 .i64 Tryd.underlying22 hi053 (some ad206) t192.length co51 (ji37) (of_decide_eq_true (by first | (with_reducible assumption) | assumption)) q53 hroom53
                                          have hr53 := Kd.C_take (m := ((ji37) : Int).toNat) hC53 (by omega)
                                          have hy53 : y210.length = ((ji37) : Int).toNat := (by rw [Ny210.out, List.length_take]; omega)
                                          rw [← Ny210.out] at hr53
                                          rw [← hy53] at hcut53
                                          have HR213 := Aside0.mk hr53
                                          have HC213 := Aside0.mk (show y210.length ≤ co51 from by omega)
                                          clear hr53 hC53 hroom53 hi053 hsz53
                                          have KY53 := Aside0.mk hy53
                                          clear hy53
                                          have KL53 := Aside0.mk (show ((ji37) : Int).toNat ≤ t192.length from by omega)
                                          replace q53 := eq_true q53
                                          go_wp2_with (first | (go_at_call 15; (with_reducible refine (rangeproof_Verify.calls k2 x20_2 (ji37) _ _ y210 true _ ?side1 ?side2 A40.out (TabTen.below hTTen.out (by repeat (first | exact HB.out | exact Below.refl _ _ | apply below_alloc | apply pw_below_drewN | apply below_drew1 | apply below_drew)))).mono ?_); (case side1 => repeat (first | exact (by repeat (first | (with_reducible exact HR213.out) | (with_reducible refine Kd.C_alloc ?_ _) | (with_reducible refine Kd.C_drewN ?_ _) | (with_reducible refine Kd.C_drew ?_) | exact HR213.out)) | (with_reducible refine Kd.C_alloc ?_ _) | (with_reducible refine Kd.C_drewN ?_ _) | (with_reducible refine Kd.C_drew ?_))); (case side2 => exact HC213.out); rintro e w54 ⟨rfl, hb⟩; have n0_ := Aside0.mk (Kd.R_below (by (with_reducible repeat (first | apply Kd.R_alloc | apply Kd.R_drewN | apply Kd.R_drew)); exact HO_15.out) hb); have n1_ := Aside0.mk (Kd.R_below (by (with_reducible repeat (first | apply Kd.R_alloc | apply Kd.R_drewN | apply Kd.R_drew)); exact HO209.out) hb); have n2_ := Aside0.mk (Kd.C_below (by repeat (first | (with_reducible exact HR213.out) | (with_reducible refine Kd.C_alloc ?_ _) | (with_reducible refine Kd.C_drewN ?_ _) | (with_reducible refine Kd.C_drew ?_) | exact HR213.out)) hb); have n3_ := Aside0.mk (below_step (by repeat (first | (with_reducible first | exact HB.out | apply below_alloc | apply pw_below_drewN | apply below_drew1) | exact HB.out)) hb); clear HO_15; clear HO209; clear HR213; clear HB; have HO_15 := n0_; have HO209 := n1_; have HR213 := n2_; have HB := n3_; clear n0_ n1_ n2_ n3_; (try clear hb); (try clear hb2); (try clear hk); (try clear hi); obtain ⟨Ao55, co55, eo55⟩ := Kd.R_slice HO209.out; subst eo55) | (go_at_call 15; (with_reducible refine (rangeproof_Verify.calls k2 t196 ji9 _ _ y207 false _ ?side1 ?side2 A42.out (TabTen.below hTTen.out (by repeat (first | exact HB.out | exact Below.refl _ _ | apply below_alloc | apply pw_below_drewN | apply below_drew1 | apply below_drew)))).mono ?_); (case side1 => repeat (first | exact (Kd.R_reads' HO209.out).2.2 | (with_reducible refine Kd.C_alloc ?_ _) | (with_reducible refine Kd.C_drewN ?_ _) | (with_reducible refine Kd.C_drew ?_))); (case side2 => exact (Kd.R_reads' HO209.out).2.1); rintro e w56 ⟨rfl, hb⟩; have n0_ := Aside0.mk (Kd.R_below (by (with_reducible repeat (first | apply Kd.R_alloc | apply Kd.R_drewN | apply Kd.R_drew)); exact HO_15.out) hb); have n1_ := Aside0.mk (Kd.R_below (by (with_reducible repeat (first | apply Kd.R_alloc | apply Kd.R_drewN | apply Kd.R_drew)); exact HO209.out) hb); have n2_ := Aside0.mk (Kd.C_below (by repeat (first | (with_reducible exact HR213.out) | (with_reducible refine Kd.C_alloc ?_ _) | (with_reducible refine Kd.C_drewN ?_ _) | (with_reducible refine Kd.C_drew ?_) | exact HR213.out)) hb); have n3_ := Aside0.mk (below_step (by repeat (first | (with_reducible first | exact HB.out | apply below_alloc | apply pw_below_drewN | apply below_drew1) | exact HB.out)) hb); clear HO_15; clear HO209; clear HR213; clear HB; have HO_15 := n0_; have HO209 := n1_; have HR213 := n2_; have HB := n3_; clear n0_ n1_ n2_ n3_; (try clear hb); (try clear hb2); (try clear hk); (try clear hi); have q57 : ((ji44) : Int) ≤ ((t192.length : Int) : Int) := of_decide_eq_true (by first | (with_reducible assumption) | assumption); obtain ⟨i057, hi057, _, hsz57, _⟩ := info_parts info25; have hroom57 : t192.length ≤ co51 := (Kd.R_reads' HO_15.out).2.1; have hC57 : Kd.C k25 _ (some ad206) t192.length t192 := (Kd.R_reads' HO_15.out).2.2; have hcut57 := cut_to (P := Tryd.prog) 22 25 .i64 Tryd.underlying22 hi057 (some ad206) t192.length co51 (ji44) (of_decide_eq_true (by first | (with_reducible assumption) | assumption)) q57 hroom57; have hr57 := Kd.C_take (m := ((ji44) : Int).toNat) hC57 (by omega); have hy57 : y216.length = ((ji44) : Int).toNat := (by rw [Ny216.out, List.length_take]; omega); rw [← Ny216.out] at hr57; rw [← hy57] at hcut57; have HR219 := Aside0.mk hr57; have HC219 := Aside0.mk (show y216.length ≤ co51 from by omega); clear hr57 hC57 hroom57 hi057 hsz57; have KY57 := Aside0.mk hy57; clear hy57; have KL57 := Aside0.mk (show ((ji44) : Int).toNat ≤ t192.length from by omega); replace q57 := eq_true q57) | (go_at_call 15; (with_reducible refine (rangeproof_Verify.calls k2 t196 ji9 _ _ y216 t220 _ ?side1 ?side2 A47.out (TabTen.below hTTen.out (by repeat (first | exact HB.out | exact Below.refl _ _ | apply below_alloc | apply pw_below_drewN | apply below_drew1 | apply below_drew)))).mono ?_); (case side1 => repeat (first | exact (by repeat (first | (with_reducible exact HR219.out) | (with_reducible refine Kd.C_alloc ?_ _) | (with_reducible refine Kd.C_drewN ?_ _) | (with_reducible refine Kd.C_drew ?_) | exact HR219.out)) | (with_reducible refine Kd.C_alloc ?_ _) | (with_reducible refine Kd.C_drewN ?_ _) | (with_reducible refine Kd.C_drew ?_))); (case side2 => exact HC219.out); rintro e w58 ⟨rfl, hb⟩; have n0_ := Aside0.mk (Kd.R_below (by (with_reducible repeat (first | apply Kd.R_alloc | apply Kd.R_drewN | apply Kd.R_drew)); exact HO_15.out) hb); have n1_ := Aside0.mk (Kd.R_below (by (with_reducible repeat (first | apply Kd.R_alloc | apply Kd.R_drewN | apply Kd.R_drew)); exact HO209.out) hb); have n2_ := Aside0.mk (Kd.C_below (by repeat (first | (with_reducible exact HR213.out) | (with_reducible refine Kd.C_alloc ?_ _) | (with_reducible refine Kd.C_drewN ?_ _) | (with_reducible refine Kd.C_drew ?_) | exact HR213.out)) hb); have n3_ := Aside0.mk (Kd.C_below (by repeat (first | (with_reducible exact HR219.out) | (with_reducible refine Kd.C_alloc ?_ _) | (with_reducible refine Kd.C_drewN ?_ _) | (with_reducible refine Kd.C_drew ?_) | exact HR219.out)) hb); have n4_ := Aside0.mk (below_step (by repeat (first | (with_reducible first | exact HB.out | apply below_alloc | apply pw_below_drewN | apply below_drew1) | exact HB.out)) hb); clear HO_15; clear HO209; clear HR213; clear HR219; clear HB; have HO_15 := n0_; have HO209 := n1_; have HR213 := n2_; have HR219 := n3_; have HB := n4_; clear n0_ n1_ n2_ n3_ n4_; (try clear hb); (try clear hb2); (try clear hk); (try clear hi)))
                                          go_ret
                                          exact ⟨by first | rfl | (simp [errW_none, errW_some] <;> rfl) | (simp only [← hji9, ← hji11, ← hji37, ← hji44]; first | rfl | (simp [errW_none, errW_some] <;> rfl)) | (simp [*, errW_none, errW_some] <;> rfl), by repeat (first | (with_reducible first | exact HB.out | apply below_alloc | apply pw_below_drewN | apply below_drew1) | exact HB.out)⟩
                                        · rw [if_neg c46] at H
                                          exact absurd H (by simp)
                                      · rw [if_neg c45] at H
                                        exact absurd H (by simp)
                                  · replace c41 := Bool.eq_false_iff.mpr c41
                                    subst c41
                                    have H1 : (some false) = some r := by rw [if_neg (show ¬ (false = true) by decide)] at H; exact H
                                    clear H
                                    have H := H1
                                    clear H1
                                    exact absurd (H.trans (congrArg some hRT.out)) (by simp)
                                · rw [if_neg c39] at H
                                  exact absurd H (by simp)
                              · rw [if_neg c38] at H
                                exact absurd H (by simp)
                            · replace c36 := Bool.eq_false_iff.mpr c36
                              subst c36
                              have H1 : (some false) = some r := by rw [if_neg (show ¬ (false = true) by decide)] at H; exact H
                              clear H
                              have H := H1
                              clear H1
                              exact absurd (H.trans (congrArg some hRT.out)) (by simp)
                          · rw [if_neg c35] at H
                            exact absurd H (by simp)
                        · rw [if_neg c34] at H
                          exact absurd H (by simp)
                      · rw [if_neg c33] at H
                        exact absurd H (by simp)
    · rw [if_neg c10] at H
      exact absurd H (by simp)

/-- THE ONE PURE STATEMENT of wageofficelaw27_RangeproofLengths: yours. -/
def wageofficelaw27_RangeproofLengths.Pure : Prop := ∀ (a0 : Int) (a1 : Int) (a2 : Int) (a3 : ByteArray) (a4 : Int), (Lit.int .u32 a0).wf = true → (Lit.int .u32 a1).wf = true → (Lit.int .u8 a2).wf = true → a3.size ≤ 140737488351232 → (Lit.int .u8 a4).wf = true → ∃ k, wageofficelaw27_RangeproofLengths.f k a0 a1 a2 a3 a4 = some true
-- NOT PRINTED: function 5 (wageofficelaw27_RangeproofReplies)
end Go.Proofs.YtnlgnmlobklobaaDoor.PAll
