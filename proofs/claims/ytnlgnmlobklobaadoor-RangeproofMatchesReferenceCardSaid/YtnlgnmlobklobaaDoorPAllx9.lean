-- Written by myprint.py over the kit's print.py (a printed text of this session's own make).
import Derived.Test.YtnlgnmlobklobaaDoorStubRf
import Derived.Test.YtnlgnmlobklobaaDoorPAllx0
import Derived.Test.YtnlgnmlobklobaaDoorPAllx2
import Derived.Test.YtnlgnmlobklobaaDoorPAllx3
import Derived.Test.YtnlgnmlobklobaaDoorPAllx5
import Derived.Test.YtnlgnmlobklobaaDoorPAllx7
import Derived.Test.YtnlgnmlobklobaaDoorPAllx8
-- HALF the printed indentation
namespace Go.Proofs.YtnlgnmlobklobaaDoor.PAll
open Go.Proofs.YtnlgnmlobklobaaDoor.Stub Go.Proofs.YtnlgnmlobklobaaDoor.Com Go.Proofs.YtnlgnmlobklobaaDoor.Hash
open Go.RowKit Go.Proofs.YtnlgnmlobklobaaDoorW.PrintWords Go.Proofs.YtnlgnmlobklobaaDoorW.PrintLast Go.Proofs.YtnlgnmlobklobaaDoorW.PrintMore
attribute [local go_sem] max2_int min2_int max_two min_two max_three min_three max_four min_four   -- for this text's walks alone
set_option linter.unusedVariables false
set_option linter.unusedSimpArgs false

/-! ### wageofficeref27_Verify: function 16 -/
mutual
def wageofficeref27_Verify.j0 : Nat → Int → Int → List (S25) → Bool → Option (Bool)
 | 0, _, _, _, _ => none
 | k + 1, x0, x1, x2, x19 => if x19 = true then (some false) else (wageofficeref27_Verify.l0 k x0 x1 x2 0)
def wageofficeref27_Verify.l0 : Nat → Int → Int → List (S25) → Int → Option (Bool)
 | 0, _, _, _, _ => none
 | k + 1, x0, x1, x2, x7 => if x7 < x1 then (if 0 ≤ x7 then (if x7 < (x2.length : Int) then ((wageofficeref27_Valid.f k ((rd_T25 x2 x7).f0) ((rd_T25 x2 x7).f1.f0) ((rd_T25 x2 x7).f1.f1) ((rd_T25 x2 x7).f2.f0) ((rd_T25 x2 x7).f2.f1) ((rd_T25 x2 x7).f3.f0) ((rd_T25 x2 x7).f3.f1)).bind fun t251 => (if t251 = true then (wageofficeref27_Verify.l0 k x0 x1 x2 (wrap64 (x7 + 1))) else (some false))) else (none)) else (none)) else ((wageofficeref27_Product.f k x2).bind fun t252 => (some (t252 == x0)))
end
def wageofficeref27_Verify.f (k : Nat) (a0 : Int) (a1 : Int) (l2 : List (S25)) : Option (Bool) := if a1 < 1 then (wageofficeref27_Verify.j0 k a0 a1 l2 true) else (if a1 > 28 then (wageofficeref27_Verify.j0 k a0 a1 l2 true) else (wageofficeref27_Verify.j0 k a0 a1 l2 ((l2.length : Int) != a1)))
set_option maxHeartbeats 8000000 in
set_option maxRecDepth 100000 in
theorem wageofficeref27_Verify.calls (k : Nat) (a0 : Int) (a1 : Int) (A2 : Option Addr) (c2 : Nat) (l2 : List (S25)) (r : Bool) (w : World) (hr2 : Kd.C k25 w A2 l2.length l2) (hc2 : l2.length ≤ c2) (h : wageofficeref27_Verify.f k a0 a1 l2 = some r) :
  Calls Tryd.prog 16 #[.int .i64 a0, .int .i64 a1, .slice A2 l2.length c2] w fun e w' => e = .returned (.bool r) ∧ Below w.heap.size w w' := by
 have hu25 := Tryd.underlying25
 have HR2 := Aside0.mk hr2
 have HC2 := Aside0.mk hc2
 clear hr2 hc2
 have HB := Aside0.mk (Below.refl w.heap.size w)
 have H : (if a1 < 1 then (wageofficeref27_Verify.j0 k a0 a1 l2 true) else (if a1 > 28 then (wageofficeref27_Verify.j0 k a0 a1 l2 true) else (wageofficeref27_Verify.j0 k a0 a1 l2 ((l2.length : Int) != a1)))) = some r := h
 clear h
 have HC4 := Aside0.mk H
 clear H
 go_enter Tryd.func16, Tryd.ntmps16
 go_upto_region 1 with (fail)
 go_cut [19] (fun v19 wc => ∃ (kq : Nat) (x19_3 : Bool), v19 = .bool x19_3 ∧ Aside0 (wageofficeref27_Verify.j0 kq a0 a1 l2 x19_3 = some r) ∧ Aside0 (kq ≤ k) ∧ Aside0 (Below w.heap.size w wc))
 case first =>
  have H := HC4.out
  clear HC4
  by_cases c5 : a1 < 1
  ·rw [if_pos c5] at H
   have c5b0 : decide (a1 < 1) = true := decide_eq_true c5
   clear c5
   (first | rw [c5b0] | (simp only [i64_w, i32_w]; rw [c5b0]) | skip)
   have H' := Aside0.mk H
   clear H
   go_wp2
   go_meet
   case rel => exact ⟨_, (true), (by first | rfl | (simp; done) | (simp [*]; done)), H', ⟨by first | omega | exact Nat.le_refl _⟩, ⟨by repeat (first | (with_reducible first | exact HB.out | apply below_alloc | apply pw_below_drewN | apply below_drew1) | exact HB.out)⟩⟩
  ·rw [if_neg c5] at H
   have c5b0 : decide (a1 < 1) = false := decide_eq_false c5
   clear c5
   (first | rw [c5b0] | (simp only [i64_w, i32_w]; rw [c5b0]) | skip)
   by_cases c6 : a1 > 28
   ·rw [if_pos c6] at H
    have c6b0 : decide (28 < a1) = true := decide_eq_true c6
    clear c6
    have H' := Aside0.mk H
    clear H
    go_wp2
    go_meet
    case rel => exact ⟨_, (true), (by first | rfl | (simp; done) | (simp [*]; done)), H', ⟨by first | omega | exact Nat.le_refl _⟩, ⟨by repeat (first | (with_reducible first | exact HB.out | apply below_alloc | apply pw_below_drewN | apply below_drew1) | exact HB.out)⟩⟩
   ·rw [if_neg c6] at H
    have c6b0 : decide (28 < a1) = false := decide_eq_false c6
    clear c6
    have H' := Aside0.mk H
    clear H
    go_wp2
    go_meet
    case rel => exact ⟨_, (((l2.length : Int) != a1)), (by first | rfl | (simp; done) | (simp [*]; done)), H', ⟨by first | omega | exact Nat.le_refl _⟩, ⟨by repeat (first | (with_reducible first | exact HB.out | apply below_alloc | apply pw_below_drewN | apply below_drew1) | exact HB.out)⟩⟩
 case rest =>
  clear HC4
  try clear c1
  try clear c2
  try clear p2
  try clear c5
  try clear c5b0
  try clear c6
  try clear c6b0
  obtain ⟨kq, x19_3, rfl, HA, HJ3, HB⟩ := hcut
  cases kq with
  | zero => exact absurd HA.out (by simp [wageofficeref27_Verify.j0])
  | succ kj3 =>
   have H := HA.out
   clear HA
   simp only [wageofficeref27_Verify.j0] at H
   by_cases c7 : x19_3 = true
   ·subst c7
    have H1 : (some false) = some r := by rw [if_pos rfl] at H; exact H
    clear H
    have H := H1
    clear H1
    obtain rfl := Option.some.inj H
    go_wp2
    go_ret
    exact ⟨by first | rfl | (simp [errW_none, errW_some] <;> rfl) | (simp [*, errW_none, errW_some] <;> rfl), by repeat (first | (with_reducible first | exact HB.out | apply below_alloc | apply pw_below_drewN | apply below_drew1) | exact HB.out)⟩
   ·replace c7 := Bool.eq_false_iff.mpr c7
    subst c7
    have H1 : (wageofficeref27_Verify.l0 kj3 a0 a1 l2 0) = some r := by rw [if_neg (show ¬ (false = true) by decide)] at H; exact H
    clear H
    have H := H1
    clear H1
    have H' := Aside0.mk H
    clear H
    go_wp2
    go_loopg [7] kj3 (fun kq v7 w' => ∃ (x7_2 : Int), v7 = .int .i64 x7_2 ∧ Aside0 (wageofficeref27_Verify.l0 kq a0 a1 l2 x7_2 = some r) ∧ Aside0 (kq ≤ kj3) ∧ Aside0 (Below w.heap.size w w'))
    case atStart => exact ⟨(0), (by first | rfl | (simp; done) | (simp [*]; done)), H', ⟨Nat.le_refl _⟩, ⟨by repeat (first | (with_reducible first | exact HB.out | apply below_alloc | apply pw_below_drewN | apply below_drew1) | exact HB.out)⟩⟩
    case round =>
     clear H'
     try clear c1
     try clear c2
     try clear p2
     try clear c5
     try clear c5b0
     try clear c6
     try clear c6b0
     try clear c7
     try clear p2
     obtain ⟨x7_2, rfl, HA, HK2, HB⟩ := hrel
     cases gk with
     | zero => exact absurd HA.out (by simp [wageofficeref27_Verify.l0])
     | succ k2 =>
      have H := HA.out
      clear HA
      simp only [wageofficeref27_Verify.l0] at H
      by_cases c8 : x7_2 < a1
      ·rw [if_pos c8] at H
       have c8b0 : decide (x7_2 < a1) = true := decide_eq_true c8
       clear c8
       by_cases c9 : 0 ≤ x7_2
       ·rw [if_pos c9] at H
        have c9b0 : decide (0 ≤ x7_2) = true := decide_eq_true c9
        clear c9
        by_cases c10 : x7_2 < (l2.length : Int)
        ·rw [if_pos c10] at H
         have c10b0 : decide (x7_2 < (l2.length : Int)) = true := decide_eq_true c10
         clear c10
         replace H := Option.bind_eq_some_iff.mp H
         obtain ⟨t251, A110, H⟩ := H
         replace H : (if t251 = true then (wageofficeref27_Verify.l0 k2 a0 a1 l2 (wrap64 (x7_2 + 1))) else (some false)) = some r := H
         have A11 := Aside0.mk A110
         clear A110
         by_cases c12 : t251 = true
         ·subst c12
          have H1 : (wageofficeref27_Verify.l0 k2 a0 a1 l2 (wrap64 (x7_2 + 1))) = some r := by rw [if_pos rfl] at H; exact H
          clear H
          have H := H1
          clear H1
          have H' := Aside0.mk H
          clear H
          have p250 : 0 ≤ (x7_2 : Int) := of_decide_eq_true (by first | (with_reducible assumption) | assumption)
          have q250 : x7_2 < (l2.length : Int) := of_decide_eq_true (by first | (with_reducible assumption) | assumption)
          obtain ⟨ad250, e250, hx250_0, hx250_1, hx250_2, hx250_3, hx250_4, hx250_5, hx250_6⟩ := at_T25 HR2.out x7_2 p250 q250
          cases e250
          replace hx250_0 := (HB.out.cell (World.block_lt_of_cell? w _ hx250_0)).trans hx250_0
          replace hx250_1 := (HB.out.cell (World.block_lt_of_cell? w _ hx250_1)).trans hx250_1
          replace hx250_2 := (HB.out.cell (World.block_lt_of_cell? w _ hx250_2)).trans hx250_2
          replace hx250_3 := (HB.out.cell (World.block_lt_of_cell? w _ hx250_3)).trans hx250_3
          replace hx250_4 := (HB.out.cell (World.block_lt_of_cell? w _ hx250_4)).trans hx250_4
          replace hx250_5 := (HB.out.cell (World.block_lt_of_cell? w _ hx250_5)).trans hx250_5
          replace hx250_6 := (HB.out.cell (World.block_lt_of_cell? w _ hx250_6)).trans hx250_6
          replace p250 := eq_true p250
          replace q250 := eq_true q250
          go_wp2_with (first | ((with_reducible refine gate_callee (f := 36) rfl ?_); refine goesL_ (some 29) rfl rfl Tryd.func36 (by kernel_rfl) rfl #[.agg #[.int .i64 ((rd_T25 l2 x7_2).f0), .int .i64 ((rd_T25 l2 x7_2).f1.f0), .int .i64 ((rd_T25 l2 x7_2).f1.f1), .int .i64 ((rd_T25 l2 x7_2).f2.f0), .int .i64 ((rd_T25 l2 x7_2).f2.f1), .int .i64 ((rd_T25 l2 x7_2).f3.f0), .int .i64 ((rd_T25 l2 x7_2).f3.f1)]] rfl (by (try simp only [List.map_toArray, List.map_cons, List.map_nil]); first | done | rfl | (simp only [List.length_drop, List.length_take]; rfl)) ?_; (with_reducible refine (wageofficeref27_Valid.calls k2 ((rd_T25 l2 x7_2).f0) ((rd_T25 l2 x7_2).f1.f0) ((rd_T25 l2 x7_2).f1.f1) ((rd_T25 l2 x7_2).f2.f0) ((rd_T25 l2 x7_2).f2.f1) ((rd_T25 l2 x7_2).f3.f0) ((rd_T25 l2 x7_2).f3.f1) true _ A11.out).mono ?_); rintro e w13 ⟨rfl, hb⟩; refine ⟨_, rfl, ?_⟩; have n0_ := Aside0.mk (below_step (by repeat (first | (with_reducible first | exact HB.out | apply below_alloc | apply pw_below_drewN | apply below_drew1) | exact HB.out)) hb); clear HB; have HB := n0_; clear n0_; (try clear hb); (try clear hb2); (try clear hk); (try clear hi)))
          go_roundg k2
          case measure => have := HJ3.out; have := HK2.out; omega
          case rel => exact ⟨(wrap64 (x7_2 + 1)), (by first | rfl | (simp; done) | (simp [*]; done)), H', ⟨by have := HJ3.out; have := HK2.out; omega⟩, ⟨by repeat (first | (with_reducible first | exact HB.out | apply below_alloc | apply pw_below_drewN | apply below_drew1) | exact HB.out)⟩⟩
         ·replace c12 := Bool.eq_false_iff.mpr c12
          subst c12
          have H1 : (some false) = some r := by rw [if_neg (show ¬ (false = true) by decide)] at H; exact H
          clear H
          have H := H1
          clear H1
          obtain rfl := Option.some.inj H
          have p250 : 0 ≤ (x7_2 : Int) := of_decide_eq_true (by first | (with_reducible assumption) | assumption)
          have q250 : x7_2 < (l2.length : Int) := of_decide_eq_true (by first | (with_reducible assumption) | assumption)
          obtain ⟨ad250, e250, hx250_0, hx250_1, hx250_2, hx250_3, hx250_4, hx250_5, hx250_6⟩ := at_T25 HR2.out x7_2 p250 q250
          cases e250
          replace hx250_0 := (HB.out.cell (World.block_lt_of_cell? w _ hx250_0)).trans hx250_0
          replace hx250_1 := (HB.out.cell (World.block_lt_of_cell? w _ hx250_1)).trans hx250_1
          replace hx250_2 := (HB.out.cell (World.block_lt_of_cell? w _ hx250_2)).trans hx250_2
          replace hx250_3 := (HB.out.cell (World.block_lt_of_cell? w _ hx250_3)).trans hx250_3
          replace hx250_4 := (HB.out.cell (World.block_lt_of_cell? w _ hx250_4)).trans hx250_4
          replace hx250_5 := (HB.out.cell (World.block_lt_of_cell? w _ hx250_5)).trans hx250_5
          replace hx250_6 := (HB.out.cell (World.block_lt_of_cell? w _ hx250_6)).trans hx250_6
          replace p250 := eq_true p250
          replace q250 := eq_true q250
          go_wp2_with (first | ((with_reducible refine gate_callee (f := 36) rfl ?_); refine goesL_ (some 29) rfl rfl Tryd.func36 (by kernel_rfl) rfl #[.agg #[.int .i64 ((rd_T25 l2 x7_2).f0), .int .i64 ((rd_T25 l2 x7_2).f1.f0), .int .i64 ((rd_T25 l2 x7_2).f1.f1), .int .i64 ((rd_T25 l2 x7_2).f2.f0), .int .i64 ((rd_T25 l2 x7_2).f2.f1), .int .i64 ((rd_T25 l2 x7_2).f3.f0), .int .i64 ((rd_T25 l2 x7_2).f3.f1)]] rfl (by (try simp only [List.map_toArray, List.map_cons, List.map_nil]); first | done | rfl | (simp only [List.length_drop, List.length_take]; rfl)) ?_; (with_reducible refine (wageofficeref27_Valid.calls k2 ((rd_T25 l2 x7_2).f0) ((rd_T25 l2 x7_2).f1.f0) ((rd_T25 l2 x7_2).f1.f1) ((rd_T25 l2 x7_2).f2.f0) ((rd_T25 l2 x7_2).f2.f1) ((rd_T25 l2 x7_2).f3.f0) ((rd_T25 l2 x7_2).f3.f1) false _ A11.out).mono ?_); rintro e w14 ⟨rfl, hb⟩; refine ⟨_, rfl, ?_⟩; have n0_ := Aside0.mk (below_step (by repeat (first | (with_reducible first | exact HB.out | apply below_alloc | apply pw_below_drewN | apply below_drew1) | exact HB.out)) hb); clear HB; have HB := n0_; clear n0_; (try clear hb); (try clear hb2); (try clear hk); (try clear hi)))
          go_ret
          exact ⟨by first | rfl | (simp [errW_none, errW_some] <;> rfl) | (simp [*, errW_none, errW_some] <;> rfl), by repeat (first | (with_reducible first | exact HB.out | apply below_alloc | apply pw_below_drewN | apply below_drew1) | exact HB.out)⟩
        ·rw [if_neg c10] at H
         exact absurd H (by simp)
       ·rw [if_neg c9] at H
        exact absurd H (by simp)
      ·rw [if_neg c8] at H
       have c8b0 : decide (x7_2 < a1) = false := decide_eq_false c8
       clear c8
       replace H := Option.bind_eq_some_iff.mp H
       obtain ⟨t252, A150, H⟩ := H
       replace H : (some (t252 == a0)) = some r := H
       have A15 := Aside0.mk A150
       clear A150
       obtain rfl := Option.some.inj H
       go_wp2_with (first | ((with_reducible refine gate_callee (f := 37) rfl ?_); refine goesL_ (some 32) rfl rfl Tryd.func37 (by kernel_rfl) rfl #[.slice A2 l2.length c2] rfl (by (try simp only [List.map_toArray, List.map_cons, List.map_nil]); first | done | rfl | (simp only [List.length_drop, List.length_take]; rfl)) ?_; (with_reducible refine (wageofficeref27_Product.calls k2 _ _ l2 t252 _ ?side1 ?side2 A15.out).mono ?_); (case side1 => repeat (first | exact (Kd.C_below HR2.out HB.out) | (with_reducible refine Kd.C_alloc ?_ _) | (with_reducible refine Kd.C_drewN ?_ _) | (with_reducible refine Kd.C_drew ?_))); (case side2 => exact HC2.out); rintro e w' ⟨rfl, ⟨nd, rfl⟩⟩; refine ⟨_, rfl, ?_⟩))
       go_ret
       exact ⟨by first | rfl | (simp [errW_none, errW_some] <;> rfl) | (simp [*, errW_none, errW_some] <;> rfl), by repeat (first | (with_reducible first | exact HB.out | apply below_alloc | apply pw_below_drewN | apply below_drew1) | exact HB.out)⟩

/-! ### wageofficelaw27_RangeproofMatchesReference: function 3 -/
def wageofficelaw27_RangeproofMatchesReference.j0 : Nat → Int → Int → Int → ByteArray → Int → List (S25) → Bool → Bool → Int → Int → Int → Int → Int → Int → Int → Int → Int → Int → Int → Int → Int → Int → Option (Bool)
 | 0, _, _, _, _, _, _, _, _, _, _, _, _, _, _, _, _, _, _, _, _, _, _ => none
 | k + 1, x0, x1, x2, x3, x4, x5, x17, x36, x254000, x254001, x254002, x254003, x254004, x254005, x254006, x255000, x255001, x255002, x255003, x255004, x255005, x255006 => if x36 = true then (some x17) else ((rangeproof_Prove.f k x0 x1 x2 x3).bind fun bt256 => ((wageofficeref27_Prove.f k x0 x1 x2 x3).bind fun bt260 => ((rangeproof_Extract.f x254000 x254001 x254002 x254003 x254004 x254005 x254006 x255000 x255001 x255002 x255003 x255004 x255005 x255006).bind fun bt264 => ((wageofficeref27_Extract.f x254000 x254001 x254002 x254003 x254004 x254005 x254006 x255000 x255001 x255002 x255003 x255004 x255005 x255006).bind fun bt267 => (if x17 = true then (if bt256.2 = bt260.2 then ((wageofficeref27_Same.f k bt256.1 bt260.1).bind fun t270 => (if t270 = true then ((rangeproof_Verify.f k x4 x2 x5).bind fun t271 => ((wageofficeref27_Verify.f k x4 x2 x5).bind fun t272 => (if (t271 == t272) = true then (if bt264.1 = bt267.1 then (if bt264.2.1 = bt267.2.1 then (some (bt264.2.2 == bt267.2.2)) else (some false)) else (some false)) else (some false)))) else (some false))) else (some false)) else (some false))))))
def wageofficelaw27_RangeproofMatchesReference.f (k : Nat) (a0 : Int) (a1 : Int) (a2 : Int) (a3 : ByteArray) (a4 : Int) (l5 : List (S25)) (a6_0 : Int) (a6_1 : Int) (a6_2 : Int) (a6_3 : Int) (a6_4 : Int) (a6_5 : Int) (a6_6 : Int) (a7_0 : Int) (a7_1 : Int) (a7_2 : Int) (a7_3 : Int) (a7_4 : Int) (a7_5 : Int) (a7_6 : Int) : Option (Bool) := (wageofficelaw27_head.f k).bind fun t255 => (if (a3.size : Int) > 60 then (wageofficelaw27_RangeproofMatchesReference.j0 k a0 a1 a2 a3 a4 l5 t255 true a6_0 a6_1 a6_2 a6_3 a6_4 a6_5 a6_6 a7_0 a7_1 a7_2 a7_3 a7_4 a7_5 a7_6) else (wageofficelaw27_RangeproofMatchesReference.j0 k a0 a1 a2 a3 a4 l5 t255 (decide ((l5.length : Int) > 40)) a6_0 a6_1 a6_2 a6_3 a6_4 a6_5 a6_6 a7_0 a7_1 a7_2 a7_3 a7_4 a7_5 a7_6))
set_option maxHeartbeats 8000000 in
set_option maxRecDepth 100000 in
theorem wageofficelaw27_RangeproofMatchesReference.calls (k : Nat) (a0 : Int) (a1 : Int) (a2 : Int) (a3 : ByteArray) (a4 : Int) (A5 : Option Addr) (c5 : Nat) (l5 : List (S25)) (a6_0 : Int) (a6_1 : Int) (a6_2 : Int) (a6_3 : Int) (a6_4 : Int) (a6_5 : Int) (a6_6 : Int) (a7_0 : Int) (a7_1 : Int) (a7_2 : Int) (a7_3 : Int) (a7_4 : Int) (a7_5 : Int) (a7_6 : Int) (r : Bool) (w : World) (hr5 : Kd.C k25 w A5 l5.length l5) (hc5 : l5.length ≤ c5) (hRT0 : r = true) (h : wageofficelaw27_RangeproofMatchesReference.f k a0 a1 a2 a3 a4 l5 a6_0 a6_1 a6_2 a6_3 a6_4 a6_5 a6_6 a7_0 a7_1 a7_2 a7_3 a7_4 a7_5 a7_6 = some r) (hTGen0 : TabGen w) (hTTen0 : TabTen w) :
  Calls Tryd.prog 3 #[.int .i64 a0, .int .i64 a1, .int .i64 a2, .string a3, .int .i64 a4, .slice A5 l5.length c5, .agg #[.int .i64 a6_0, .int .i64 a6_1, .int .i64 a6_2, .int .i64 a6_3, .int .i64 a6_4, .int .i64 a6_5, .int .i64 a6_6], .agg #[.int .i64 a7_0, .int .i64 a7_1, .int .i64 a7_2, .int .i64 a7_3, .int .i64 a7_4, .int .i64 a7_5, .int .i64 a7_6]] w fun e w' => e = .returned (.bool r) ∧ Below w.heap.size w w' := by
 have hTGen := Aside0.mk hTGen0
 clear hTGen0
 have hTTen := Aside0.mk hTTen0
 clear hTTen0
 have hu25 := Tryd.underlying25
 have HR5 := Aside0.mk hr5
 have HC5 := Aside0.mk hc5
 clear hr5 hc5
 have HB := Aside0.mk (Below.refl w.heap.size w)
 have H : ((wageofficelaw27_head.f k).bind fun t255 => (if (a3.size : Int) > 60 then (wageofficelaw27_RangeproofMatchesReference.j0 k a0 a1 a2 a3 a4 l5 t255 true a6_0 a6_1 a6_2 a6_3 a6_4 a6_5 a6_6 a7_0 a7_1 a7_2 a7_3 a7_4 a7_5 a7_6) else (wageofficelaw27_RangeproofMatchesReference.j0 k a0 a1 a2 a3 a4 l5 t255 (decide ((l5.length : Int) > 40)) a6_0 a6_1 a6_2 a6_3 a6_4 a6_5 a6_6 a7_0 a7_1 a7_2 a7_3 a7_4 a7_5 a7_6))) = some r := h
 clear h
 have hRT := Aside0.mk hRT0
 clear hRT0
 replace H := Option.bind_eq_some_iff.mp H
 obtain ⟨t255, A90, H⟩ := H
 replace H : (if (a3.size : Int) > 60 then (wageofficelaw27_RangeproofMatchesReference.j0 k a0 a1 a2 a3 a4 l5 t255 true a6_0 a6_1 a6_2 a6_3 a6_4 a6_5 a6_6 a7_0 a7_1 a7_2 a7_3 a7_4 a7_5 a7_6) else (wageofficelaw27_RangeproofMatchesReference.j0 k a0 a1 a2 a3 a4 l5 t255 (decide ((l5.length : Int) > 40)) a6_0 a6_1 a6_2 a6_3 a6_4 a6_5 a6_6 a7_0 a7_1 a7_2 a7_3 a7_4 a7_5 a7_6)) = some r := H
 have A9 := Aside0.mk A90
 clear A90
 have HC10 := Aside0.mk H
 clear H
 go_enter Tryd.func3, Tryd.ntmps3
 go_upto_region 2 with (first | ((with_reducible refine gate_dst (N := 14) rfl ?_); (try (refine gate_guard (by rfl) ?_; dsimp only)); refine box_event ?hg (N := 14) ?hd (cs := #[.int .i64 a6_0, .int .i64 a6_1, .int .i64 a6_2, .int .i64 a6_3, .int .i64 a6_4, .int .i64 a6_5, .int .i64 a6_6]) (t := 25) ?hr ?_; (case hd => rfl); (case hg => rfl); (case hr => first | (go_simp; done) | (go_simp; rfl)); intro gb253 hg w11 hbox hb; have n0_ := Aside0.mk (below_step (by repeat (first | (with_reducible first | exact HB.out | apply below_alloc | apply pw_below_drewN | apply below_drew1) | exact HB.out)) hb); have n1_ := Aside0.mk (hbox); have n2_ := Aside0.mk ((by rw [hg]; exact (below_size (by repeat (first | (with_reducible first | exact HB.out | apply below_alloc | apply pw_below_drewN | apply below_drew1) | exact HB.out))) : w.heap.size ≤ gb253)); have n3_ := Aside0.mk ((by rw [hg]; exact (below_size (by repeat (first | (with_reducible first | exact HB.out | apply below_alloc | apply pw_below_drewN | apply below_drew1) | exact HB.out))) : w.heap.size ≤ gb253)); clear HB; have HB := n0_; have BK253 := n1_; have GW253 := n2_; have GE253 := n3_; clear n0_ n1_ n2_ n3_; clear hb hbox hg) | ((with_reducible refine gate_dst (N := 15) rfl ?_); (try (refine gate_guard (by rfl) ?_; dsimp only)); refine box_event ?hg (N := 15) ?hd (cs := #[.int .i64 a7_0, .int .i64 a7_1, .int .i64 a7_2, .int .i64 a7_3, .int .i64 a7_4, .int .i64 a7_5, .int .i64 a7_6]) (t := 25) ?hr ?_; (case hd => rfl); (case hg => rfl); (case hr => first | (go_simp; done) | (go_simp; rfl)); intro gb254 hg w12 hbox hb; have n0_ := Aside0.mk (blk_below (g := gb253) (o := .cells #[.int .i64 a6_0, .int .i64 a6_1, .int .i64 a6_2, .int .i64 a6_3, .int .i64 a6_4, .int .i64 a6_5, .int .i64 a6_6] 25 (0, 0)) (by (with_reducible repeat (first | refine blk_drewN ?_ _ | refine blk_drew ?_ | refine blk_alloc ?_ _)); exact BK253.out) hb); have n1_ := Aside0.mk (below_step (by repeat (first | (with_reducible first | exact HB.out | apply below_alloc | apply pw_below_drewN | apply below_drew1 | refine below_set ?_ GE253.out) | exact HB.out)) hb); have n2_ := Aside0.mk (hbox); have n3_ := Aside0.mk ((by rw [hg]; exact (below_size (by repeat (first | (with_reducible first | exact HB.out | apply below_alloc | apply pw_below_drewN | apply below_drew1 | refine below_set ?_ GE253.out) | exact HB.out))) : w.heap.size ≤ gb254)); have n4_ := Aside0.mk ((by rw [hg]; exact (below_size (by repeat (first | (with_reducible first | exact HB.out | apply below_alloc | apply pw_below_drewN | apply below_drew1 | refine below_set ?_ GE253.out) | exact HB.out))) : w.heap.size ≤ gb254)); have n5_ := Aside0.mk ((by rw [hg]; exact Nat.ne_of_lt (blk_lt (g := gb253) (o := .cells #[.int .i64 a6_0, .int .i64 a6_1, .int .i64 a6_2, .int .i64 a6_3, .int .i64 a6_4, .int .i64 a6_5, .int .i64 a6_6] 25 (0, 0)) (by (with_reducible repeat (first | refine blk_drewN ?_ _ | refine blk_drew ?_ | refine blk_alloc ?_ _)); exact BK253.out)) : gb253 ≠ gb254)); have n6_ := Aside0.mk ((by rw [hg]; exact Nat.ne_of_gt (blk_lt (g := gb253) (o := .cells #[.int .i64 a6_0, .int .i64 a6_1, .int .i64 a6_2, .int .i64 a6_3, .int .i64 a6_4, .int .i64 a6_5, .int .i64 a6_6] 25 (0, 0)) (by (with_reducible repeat (first | refine blk_drewN ?_ _ | refine blk_drew ?_ | refine blk_alloc ?_ _)); exact BK253.out)) : gb254 ≠ gb253)); clear BK253; clear HB; have BK253 := n0_; have HB := n1_; have BK254 := n2_; have GW254 := n3_; have GE254 := n4_; have NB253_254 := n5_; have NB254_253 := n6_; clear n0_ n1_ n2_ n3_ n4_ n5_ n6_; clear hb hbox hg) | ((with_reducible refine gate_callee (f := 9) rfl ?_); refine goesL_ (some 28) rfl rfl Tryd.func9 (by kernel_rfl) rfl #[] rfl (by (try simp only [List.map_toArray, List.map_cons, List.map_nil]); first | done | rfl | (simp only [List.length_drop, List.length_take]; rfl)) ?_; (with_reducible refine (wageofficelaw27_head.calls k  t255 _ A9.out (TabGen.below hTGen.out (by repeat (first | exact HB.out | exact Below.refl _ _ | apply below_alloc | apply pw_below_drewN | apply below_drew1 | apply below_drew | refine below_set ?_ GE253.out | refine below_set ?_ GE254.out))) (TabTen.below hTTen.out (by repeat (first | exact HB.out | exact Below.refl _ _ | apply below_alloc | apply pw_below_drewN | apply below_drew1 | apply below_drew | refine below_set ?_ GE253.out | refine below_set ?_ GE254.out)))).mono ?_); rintro e w13 ⟨rfl, hb⟩; refine ⟨_, rfl, ?_⟩; have n0_ := Aside0.mk (blk_below (g := gb253) (o := .cells #[.int .i64 a6_0, .int .i64 a6_1, .int .i64 a6_2, .int .i64 a6_3, .int .i64 a6_4, .int .i64 a6_5, .int .i64 a6_6] 25 (0, 0)) (by (with_reducible repeat (first | refine blk_drewN ?_ _ | refine blk_drew ?_ | refine blk_alloc ?_ _)); exact BK253.out) hb); have n1_ := Aside0.mk (blk_below (g := gb254) (o := .cells #[.int .i64 a7_0, .int .i64 a7_1, .int .i64 a7_2, .int .i64 a7_3, .int .i64 a7_4, .int .i64 a7_5, .int .i64 a7_6] 25 (0, 0)) (by (with_reducible repeat (first | refine blk_drewN ?_ _ | refine blk_drew ?_ | refine blk_alloc ?_ _)); exact BK254.out) hb); have n2_ := Aside0.mk (below_step (by repeat (first | (with_reducible first | exact HB.out | apply below_alloc | apply pw_below_drewN | apply below_drew1 | refine below_set ?_ GE253.out | refine below_set ?_ GE254.out) | exact HB.out)) hb); clear BK253; clear BK254; clear HB; have BK253 := n0_; have BK254 := n1_; have HB := n2_; clear n0_ n1_ n2_; (try clear hb); (try clear hb2); (try clear hk); (try clear hi)))
 (try simp only [Act.put, List.setIfInBounds_toArray, List.set_cons_zero, List.set_cons_succ])
 go_cut [36] (fun v36 wc => ∃ (kq : Nat) (x36_9 : Bool), v36 = .bool x36_9 ∧ Aside0 (wageofficelaw27_RangeproofMatchesReference.j0 kq a0 a1 a2 a3 a4 l5 t255 x36_9 a6_0 a6_1 a6_2 a6_3 a6_4 a6_5 a6_6 a7_0 a7_1 a7_2 a7_3 a7_4 a7_5 a7_6 = some r) ∧ Aside0 (kq ≤ k) ∧ Aside0 (wc.heap[gb253]? = some (.cells #[.int .i64 a6_0, .int .i64 a6_1, .int .i64 a6_2, .int .i64 a6_3, .int .i64 a6_4, .int .i64 a6_5, .int .i64 a6_6] 25 (0, 0))) ∧ Aside0 (wc.heap[gb254]? = some (.cells #[.int .i64 a7_0, .int .i64 a7_1, .int .i64 a7_2, .int .i64 a7_3, .int .i64 a7_4, .int .i64 a7_5, .int .i64 a7_6] 25 (0, 0))) ∧ Aside0 (Below w.heap.size w wc))
 case first =>
  have H := HC10.out
  clear HC10
  by_cases c14 : (a3.size : Int) > 60
  ·rw [if_pos c14] at H
   have c14b0 : decide (60 < (a3.size : Int)) = true := decide_eq_true c14
   have c14b1 : decide (60 < a3.size) = true := decide_eq_true (by omega)
   clear c14
   (first | rw [c14b0] | (simp only [i64_w, i32_w]; rw [c14b0]) | skip)
   have H' := Aside0.mk H
   clear H
   go_wp2
   go_meet
   case rel => exact ⟨_, (true), (by first | rfl | (simp; done) | (simp [*]; done)), H', ⟨by first | omega | exact Nat.le_refl _⟩, ⟨by (with_reducible repeat (first | refine blk_drewN ?_ _ | refine blk_drew ?_ | refine blk_alloc ?_ _)); exact BK253.out⟩, ⟨by (with_reducible repeat (first | refine blk_drewN ?_ _ | refine blk_drew ?_ | refine blk_alloc ?_ _)); exact BK254.out⟩, ⟨by repeat (first | (with_reducible first | exact HB.out | apply below_alloc | apply pw_below_drewN | apply below_drew1 | refine below_set ?_ GE253.out | refine below_set ?_ GE254.out) | exact HB.out)⟩⟩
  ·rw [if_neg c14] at H
   have c14b0 : decide (60 < (a3.size : Int)) = false := decide_eq_false c14
   have c14b1 : decide (60 < a3.size) = false := decide_eq_false (by omega)
   clear c14
   (first | rw [c14b0] | (simp only [i64_w, i32_w]; rw [c14b0]) | skip)
   have H' := Aside0.mk H
   clear H
   go_wp2
   go_meet
   case rel => exact ⟨_, (decide ((l5.length : Int) > 40)), (by first | rfl | (simp; done) | (simp [*]; done)), H', ⟨by first | omega | exact Nat.le_refl _⟩, ⟨by (with_reducible repeat (first | refine blk_drewN ?_ _ | refine blk_drew ?_ | refine blk_alloc ?_ _)); exact BK253.out⟩, ⟨by (with_reducible repeat (first | refine blk_drewN ?_ _ | refine blk_drew ?_ | refine blk_alloc ?_ _)); exact BK254.out⟩, ⟨by repeat (first | (with_reducible first | exact HB.out | apply below_alloc | apply pw_below_drewN | apply below_drew1 | refine below_set ?_ GE253.out | refine below_set ?_ GE254.out) | exact HB.out)⟩⟩
 case rest =>
  clear HC10
  try clear c1
  try clear p2
  try clear c3
  try clear c5
  try clear c9
  try clear c14
  try clear c14b0
  try clear c14b1
  obtain ⟨kq, x36_9, rfl, HA, HJ9, BK253, BK254, HB⟩ := hcut
  cases kq with
  | zero => exact absurd HA.out (by simp [wageofficelaw27_RangeproofMatchesReference.j0])
  | succ kj9 =>
   have H := HA.out
   clear HA
   simp only [wageofficelaw27_RangeproofMatchesReference.j0] at H
   by_cases c15 : x36_9 = true
   ·subst c15
    have H1 : (some t255) = some r := by rw [if_pos rfl] at H; exact H
    clear H
    have H := H1
    clear H1
    obtain rfl := Option.some.inj H
    go_wp2
    go_ret
    exact ⟨by first | rfl | (simp [errW_none, errW_some] <;> rfl) | (simp [*, errW_none, errW_some] <;> rfl), by repeat (first | (with_reducible first | exact HB.out | apply below_alloc | apply pw_below_drewN | apply below_drew1 | refine below_set ?_ GE253.out | refine below_set ?_ GE254.out) | exact HB.out)⟩
   ·replace c15 := Bool.eq_false_iff.mpr c15
    subst c15
    have H1 : ((rangeproof_Prove.f kj9 a0 a1 a2 a3).bind fun bt256 => ((wageofficeref27_Prove.f kj9 a0 a1 a2 a3).bind fun bt260 => ((rangeproof_Extract.f a6_0 a6_1 a6_2 a6_3 a6_4 a6_5 a6_6 a7_0 a7_1 a7_2 a7_3 a7_4 a7_5 a7_6).bind fun bt264 => ((wageofficeref27_Extract.f a6_0 a6_1 a6_2 a6_3 a6_4 a6_5 a6_6 a7_0 a7_1 a7_2 a7_3 a7_4 a7_5 a7_6).bind fun bt267 => (if t255 = true then (if bt256.2 = bt260.2 then ((wageofficeref27_Same.f kj9 bt256.1 bt260.1).bind fun t270 => (if t270 = true then ((rangeproof_Verify.f kj9 a4 a2 l5).bind fun t271 => ((wageofficeref27_Verify.f kj9 a4 a2 l5).bind fun t272 => (if (t271 == t272) = true then (if bt264.1 = bt267.1 then (if bt264.2.1 = bt267.2.1 then (some (bt264.2.2 == bt267.2.2)) else (some false)) else (some false)) else (some false)))) else (some false))) else (some false)) else (some false)))))) = some r := by rw [if_neg (show ¬ (false = true) by decide)] at H; exact H
    clear H
    have H := H1
    clear H1
    replace H := Option.bind_eq_some_iff.mp H
    obtain ⟨⟨t256, t257⟩, A160, H⟩ := H
    replace H : ((wageofficeref27_Prove.f kj9 a0 a1 a2 a3).bind fun bt260 => ((rangeproof_Extract.f a6_0 a6_1 a6_2 a6_3 a6_4 a6_5 a6_6 a7_0 a7_1 a7_2 a7_3 a7_4 a7_5 a7_6).bind fun bt264 => ((wageofficeref27_Extract.f a6_0 a6_1 a6_2 a6_3 a6_4 a6_5 a6_6 a7_0 a7_1 a7_2 a7_3 a7_4 a7_5 a7_6).bind fun bt267 => (if t255 = true then (if t257 = bt260.2 then ((wageofficeref27_Same.f kj9 t256 bt260.1).bind fun t270 => (if t270 = true then ((rangeproof_Verify.f kj9 a4 a2 l5).bind fun t271 => ((wageofficeref27_Verify.f kj9 a4 a2 l5).bind fun t272 => (if (t271 == t272) = true then (if bt264.1 = bt267.1 then (if bt264.2.1 = bt267.2.1 then (some (bt264.2.2 == bt267.2.2)) else (some false)) else (some false)) else (some false)))) else (some false))) else (some false)) else (some false))))) = some r := H
    have A16 := Aside0.mk A160
    clear A160
    replace H := Option.bind_eq_some_iff.mp H
    obtain ⟨⟨t260, t261⟩, A170, H⟩ := H
    replace H : ((rangeproof_Extract.f a6_0 a6_1 a6_2 a6_3 a6_4 a6_5 a6_6 a7_0 a7_1 a7_2 a7_3 a7_4 a7_5 a7_6).bind fun bt264 => ((wageofficeref27_Extract.f a6_0 a6_1 a6_2 a6_3 a6_4 a6_5 a6_6 a7_0 a7_1 a7_2 a7_3 a7_4 a7_5 a7_6).bind fun bt267 => (if t255 = true then (if t257 = t261 then ((wageofficeref27_Same.f kj9 t256 t260).bind fun t270 => (if t270 = true then ((rangeproof_Verify.f kj9 a4 a2 l5).bind fun t271 => ((wageofficeref27_Verify.f kj9 a4 a2 l5).bind fun t272 => (if (t271 == t272) = true then (if bt264.1 = bt267.1 then (if bt264.2.1 = bt267.2.1 then (some (bt264.2.2 == bt267.2.2)) else (some false)) else (some false)) else (some false)))) else (some false))) else (some false)) else (some false)))) = some r := H
    have A17 := Aside0.mk A170
    clear A170
    replace H := Option.bind_eq_some_iff.mp H
    obtain ⟨⟨t264, t265, t266⟩, A180, H⟩ := H
    replace H : ((wageofficeref27_Extract.f a6_0 a6_1 a6_2 a6_3 a6_4 a6_5 a6_6 a7_0 a7_1 a7_2 a7_3 a7_4 a7_5 a7_6).bind fun bt267 => (if t255 = true then (if t257 = t261 then ((wageofficeref27_Same.f kj9 t256 t260).bind fun t270 => (if t270 = true then ((rangeproof_Verify.f kj9 a4 a2 l5).bind fun t271 => ((wageofficeref27_Verify.f kj9 a4 a2 l5).bind fun t272 => (if (t271 == t272) = true then (if t264 = bt267.1 then (if t265 = bt267.2.1 then (some (t266 == bt267.2.2)) else (some false)) else (some false)) else (some false)))) else (some false))) else (some false)) else (some false))) = some r := H
    have A18 := Aside0.mk A180
    clear A180
    replace H := Option.bind_eq_some_iff.mp H
    obtain ⟨⟨t267, t268, t269⟩, A190, H⟩ := H
    replace H : (if t255 = true then (if t257 = t261 then ((wageofficeref27_Same.f kj9 t256 t260).bind fun t270 => (if t270 = true then ((rangeproof_Verify.f kj9 a4 a2 l5).bind fun t271 => ((wageofficeref27_Verify.f kj9 a4 a2 l5).bind fun t272 => (if (t271 == t272) = true then (if t264 = t267 then (if t265 = t268 then (some (t266 == t269)) else (some false)) else (some false)) else (some false)))) else (some false))) else (some false)) else (some false)) = some r := H
    have A19 := Aside0.mk A190
    clear A190
    by_cases c20 : t255 = true
    ·subst c20
     have H1 : (if t257 = t261 then ((wageofficeref27_Same.f kj9 t256 t260).bind fun t270 => (if t270 = true then ((rangeproof_Verify.f kj9 a4 a2 l5).bind fun t271 => ((wageofficeref27_Verify.f kj9 a4 a2 l5).bind fun t272 => (if (t271 == t272) = true then (if t264 = t267 then (if t265 = t268 then (some (t266 == t269)) else (some false)) else (some false)) else (some false)))) else (some false))) else (some false)) = some r := by rw [if_pos rfl] at H; exact H
     clear H
     have H := H1
     clear H1
     by_cases c21 : t257 = t261
     ·rw [if_pos c21] at H
      have c21b0 : (t257 == t261) = true := beq_iff_eq.mpr c21
      have c21b1 : (t257 != t261) = false := bne_eq_false_iff_eq.mpr c21
      clear c21
      replace H := Option.bind_eq_some_iff.mp H
      obtain ⟨t270, A220, H⟩ := H
      replace H : (if t270 = true then ((rangeproof_Verify.f kj9 a4 a2 l5).bind fun t271 => ((wageofficeref27_Verify.f kj9 a4 a2 l5).bind fun t272 => (if (t271 == t272) = true then (if t264 = t267 then (if t265 = t268 then (some (t266 == t269)) else (some false)) else (some false)) else (some false)))) else (some false)) = some r := H
      have A22 := Aside0.mk A220
      clear A220
      by_cases c23 : t270 = true
      ·subst c23
       have H1 : ((rangeproof_Verify.f kj9 a4 a2 l5).bind fun t271 => ((wageofficeref27_Verify.f kj9 a4 a2 l5).bind fun t272 => (if (t271 == t272) = true then (if t264 = t267 then (if t265 = t268 then (some (t266 == t269)) else (some false)) else (some false)) else (some false)))) = some r := by rw [if_pos rfl] at H; exact H
       clear H
       have H := H1
       clear H1
       replace H := Option.bind_eq_some_iff.mp H
       obtain ⟨t271, A240, H⟩ := H
       replace H : ((wageofficeref27_Verify.f kj9 a4 a2 l5).bind fun t272 => (if (t271 == t272) = true then (if t264 = t267 then (if t265 = t268 then (some (t266 == t269)) else (some false)) else (some false)) else (some false))) = some r := H
       have A24 := Aside0.mk A240
       clear A240
       replace H := Option.bind_eq_some_iff.mp H
       obtain ⟨t272, A250, H⟩ := H
       replace H : (if (t271 == t272) = true then (if t264 = t267 then (if t265 = t268 then (some (t266 == t269)) else (some false)) else (some false)) else (some false)) = some r := H
       have A25 := Aside0.mk A250
       clear A250
       by_cases c26 : (t271 == t272) = true
       ·rw [if_pos c26] at H
        have c26b0 : (t271 == t272) = true := c26
        (try (have c26b1 : decide (t271 = t272) = true := by simpa using c26))
        (try (have c26b2 : (t271 == t272) = true := by simpa using c26))
        clear c26
        by_cases c27 : t264 = t267
        ·rw [if_pos c27] at H
         have c27b0 : (t264 == t267) = true := beq_iff_eq.mpr c27
         have c27b1 : (t264 != t267) = false := bne_eq_false_iff_eq.mpr c27
         clear c27
         by_cases c28 : t265 = t268
         ·rw [if_pos c28] at H
          have c28b0 : (t265 == t268) = true := beq_iff_eq.mpr c28
          have c28b1 : (t265 != t268) = false := bne_eq_false_iff_eq.mpr c28
          clear c28
          obtain rfl := Option.some.inj H
          go_wp2_with (first | ((with_reducible refine gate_callee (f := 10) rfl ?_); refine goesL_ (some 43) rfl rfl Tryd.func10 (by kernel_rfl) rfl #[.int .i64 a0, .int .i64 a1, .int .i64 a2, .string a3] rfl (by (try simp only [List.map_toArray, List.map_cons, List.map_nil]); first | done | rfl | (simp only [List.length_drop, List.length_take]; rfl)) ?_; (with_reducible refine (rangeproof_Prove.calls kj9 a0 a1 a2 a3 t256 t257 _ A16.out (TabGen.below hTGen.out (by repeat (first | exact HB.out | exact Below.refl _ _ | apply below_alloc | apply pw_below_drewN | apply below_drew1 | apply below_drew | refine below_set ?_ GE253.out | refine below_set ?_ GE254.out))) (TabTen.below hTTen.out (by repeat (first | exact HB.out | exact Below.refl _ _ | apply below_alloc | apply pw_below_drewN | apply below_drew1 | apply below_drew | refine below_set ?_ GE253.out | refine below_set ?_ GE254.out)))).mono ?_); rintro e w29 ⟨v258, rfl, ho0, hb⟩; refine ⟨_, rfl, ?_⟩; have n0_ := Aside0.mk (Kd.R_lower (Kd.R_newB (Kd.R_newB ho0 (g := gb253) (o := .cells #[.int .i64 a6_0, .int .i64 a6_1, .int .i64 a6_2, .int .i64 a6_3, .int .i64 a6_4, .int .i64 a6_5, .int .i64 a6_6] 25 (0, 0)) (by (with_reducible repeat (first | refine blk_drewN ?_ _ | refine blk_drew ?_ | refine blk_alloc ?_ _)); exact BK253.out)) (g := gb254) (o := .cells #[.int .i64 a7_0, .int .i64 a7_1, .int .i64 a7_2, .int .i64 a7_3, .int .i64 a7_4, .int .i64 a7_5, .int .i64 a7_6] 25 (0, 0)) (by (with_reducible repeat (first | refine blk_drewN ?_ _ | refine blk_drew ?_ | refine blk_alloc ?_ _)); exact BK254.out)) (below_size (by repeat (first | (with_reducible first | exact HB.out | apply below_alloc | apply pw_below_drewN | apply below_drew1 | refine below_set ?_ GE253.out | refine below_set ?_ GE254.out) | exact HB.out)))); have n1_ := Aside0.mk (blk_below (g := gb253) (o := .cells #[.int .i64 a6_0, .int .i64 a6_1, .int .i64 a6_2, .int .i64 a6_3, .int .i64 a6_4, .int .i64 a6_5, .int .i64 a6_6] 25 (0, 0)) (by (with_reducible repeat (first | refine blk_drewN ?_ _ | refine blk_drew ?_ | refine blk_alloc ?_ _)); exact BK253.out) hb); have n2_ := Aside0.mk (blk_below (g := gb254) (o := .cells #[.int .i64 a7_0, .int .i64 a7_1, .int .i64 a7_2, .int .i64 a7_3, .int .i64 a7_4, .int .i64 a7_5, .int .i64 a7_6] 25 (0, 0)) (by (with_reducible repeat (first | refine blk_drewN ?_ _ | refine blk_drew ?_ | refine blk_alloc ?_ _)); exact BK254.out) hb); have n3_ := Aside0.mk (below_step (by repeat (first | (with_reducible first | exact HB.out | apply below_alloc | apply pw_below_drewN | apply below_drew1 | refine below_set ?_ GE253.out | refine below_set ?_ GE254.out) | exact HB.out)) hb); clear BK253; clear BK254; clear HB; have HO259 := n0_; have BK253 := n1_; have BK254 := n2_; have HB := n3_; clear n0_ n1_ n2_ n3_; (try clear hb); (try clear hb2); (try clear hk); (try clear hi); (try clear ho0)) | ((with_reducible refine gate_callee (f := 11) rfl ?_); refine goesL_ (some 51) rfl rfl Tryd.func11 (by kernel_rfl) rfl #[.int .i64 a0, .int .i64 a1, .int .i64 a2, .string a3] rfl (by (try simp only [List.map_toArray, List.map_cons, List.map_nil]); first | done | rfl | (simp only [List.length_drop, List.length_take]; rfl)) ?_; (with_reducible refine (wageofficeref27_Prove.calls kj9 a0 a1 a2 a3 t260 t261 _ A17.out).mono ?_); rintro e w30 ⟨v262, rfl, ho0, hb⟩; refine ⟨_, rfl, ?_⟩; have n0_ := Aside0.mk (Kd.R_elder' (by (with_reducible repeat (first | apply Kd.R_alloc | apply Kd.R_drewN | apply Kd.R_drew)); exact HO259.out) (Kd.R_base ho0) hb); have n1_ := Aside0.mk (Kd.R_lower (Kd.R_newB (Kd.R_newB (Kd.R_new' ho0 (Kd.R_lt (by (with_reducible repeat (first | apply Kd.R_alloc | apply Kd.R_drewN | apply Kd.R_drew)); exact HO259.out))) (g := gb253) (o := .cells #[.int .i64 a6_0, .int .i64 a6_1, .int .i64 a6_2, .int .i64 a6_3, .int .i64 a6_4, .int .i64 a6_5, .int .i64 a6_6] 25 (0, 0)) (by (with_reducible repeat (first | refine blk_drewN ?_ _ | refine blk_drew ?_ | refine blk_alloc ?_ _)); exact BK253.out)) (g := gb254) (o := .cells #[.int .i64 a7_0, .int .i64 a7_1, .int .i64 a7_2, .int .i64 a7_3, .int .i64 a7_4, .int .i64 a7_5, .int .i64 a7_6] 25 (0, 0)) (by (with_reducible repeat (first | refine blk_drewN ?_ _ | refine blk_drew ?_ | refine blk_alloc ?_ _)); exact BK254.out)) (below_size (by repeat (first | (with_reducible first | exact HB.out | apply below_alloc | apply pw_below_drewN | apply below_drew1 | refine below_set ?_ GE253.out | refine below_set ?_ GE254.out) | exact HB.out)))); have n2_ := Aside0.mk (blk_below (g := gb253) (o := .cells #[.int .i64 a6_0, .int .i64 a6_1, .int .i64 a6_2, .int .i64 a6_3, .int .i64 a6_4, .int .i64 a6_5, .int .i64 a6_6] 25 (0, 0)) (by (with_reducible repeat (first | refine blk_drewN ?_ _ | refine blk_drew ?_ | refine blk_alloc ?_ _)); exact BK253.out) hb); have n3_ := Aside0.mk (blk_below (g := gb254) (o := .cells #[.int .i64 a7_0, .int .i64 a7_1, .int .i64 a7_2, .int .i64 a7_3, .int .i64 a7_4, .int .i64 a7_5, .int .i64 a7_6] 25 (0, 0)) (by (with_reducible repeat (first | refine blk_drewN ?_ _ | refine blk_drew ?_ | refine blk_alloc ?_ _)); exact BK254.out) hb); have n4_ := Aside0.mk (below_step (by repeat (first | (with_reducible first | exact HB.out | apply below_alloc | apply pw_below_drewN | apply below_drew1 | refine below_set ?_ GE253.out | refine below_set ?_ GE254.out) | exact HB.out)) hb); clear HO259; clear BK253; clear BK254; clear HB; have HO259 := n0_; have HO263 := n1_; have BK253 := n2_; have BK254 := n3_; have HB := n4_; clear n0_ n1_ n2_ n3_ n4_; (try clear hb); (try clear hb2); (try clear hk); (try clear hi); (try clear ho0); have hnb31 := NB253_254.out; have hnc31 := NB254_253.out; have hcz32_0 : w30.cell? ⟨gb253, 0, none⟩ = some (.int .i64 a6_0) := (blk_cell BK253.out 0).trans rfl; have hcz32_1 : w30.cell? ⟨gb253, 1, none⟩ = some (.int .i64 a6_1) := (blk_cell BK253.out 1).trans rfl; have hcz32_2 : w30.cell? ⟨gb253, 2, none⟩ = some (.int .i64 a6_2) := (blk_cell BK253.out 2).trans rfl; have hcz32_3 : w30.cell? ⟨gb253, 3, none⟩ = some (.int .i64 a6_3) := (blk_cell BK253.out 3).trans rfl; have hcz32_4 : w30.cell? ⟨gb253, 4, none⟩ = some (.int .i64 a6_4) := (blk_cell BK253.out 4).trans rfl; have hcz32_5 : w30.cell? ⟨gb253, 5, none⟩ = some (.int .i64 a6_5) := (blk_cell BK253.out 5).trans rfl; have hcz32_6 : w30.cell? ⟨gb253, 6, none⟩ = some (.int .i64 a6_6) := (blk_cell BK253.out 6).trans rfl; have hfz32_0 := blk_frozen BK253.out 0; have hfz32_1 := blk_frozen BK253.out 1; have hfz32_2 := blk_frozen BK253.out 2; have hfz32_3 := blk_frozen BK253.out 3; have hfz32_4 := blk_frozen BK253.out 4; have hfz32_5 := blk_frozen BK253.out 5; have hfz32_6 := blk_frozen BK253.out 6; have hcz33_0 : w30.cell? ⟨gb254, 0, none⟩ = some (.int .i64 a7_0) := (blk_cell BK254.out 0).trans rfl; have hcz33_1 : w30.cell? ⟨gb254, 1, none⟩ = some (.int .i64 a7_1) := (blk_cell BK254.out 1).trans rfl; have hcz33_2 : w30.cell? ⟨gb254, 2, none⟩ = some (.int .i64 a7_2) := (blk_cell BK254.out 2).trans rfl; have hcz33_3 : w30.cell? ⟨gb254, 3, none⟩ = some (.int .i64 a7_3) := (blk_cell BK254.out 3).trans rfl; have hcz33_4 : w30.cell? ⟨gb254, 4, none⟩ = some (.int .i64 a7_4) := (blk_cell BK254.out 4).trans rfl; have hcz33_5 : w30.cell? ⟨gb254, 5, none⟩ = some (.int .i64 a7_5) := (blk_cell BK254.out 5).trans rfl; have hcz33_6 : w30.cell? ⟨gb254, 6, none⟩ = some (.int .i64 a7_6) := (blk_cell BK254.out 6).trans rfl; have hfz33_0 := blk_frozen BK254.out 0; have hfz33_1 := blk_frozen BK254.out 1; have hfz33_2 := blk_frozen BK254.out 2; have hfz33_3 := blk_frozen BK254.out 3; have hfz33_4 := blk_frozen BK254.out 4; have hfz33_5 := blk_frozen BK254.out 5; have hfz33_6 := blk_frozen BK254.out 6) | ((with_reducible refine gate_callee (f := 12) rfl ?_); refine goesL_ (some 57) rfl rfl Tryd.func12 (by kernel_rfl) rfl #[.agg #[.int .i64 a6_0, .int .i64 a6_1, .int .i64 a6_2, .int .i64 a6_3, .int .i64 a6_4, .int .i64 a6_5, .int .i64 a6_6], .agg #[.int .i64 a7_0, .int .i64 a7_1, .int .i64 a7_2, .int .i64 a7_3, .int .i64 a7_4, .int .i64 a7_5, .int .i64 a7_6]] rfl (by (try simp only [List.map_toArray, List.map_cons, List.map_nil]); first | done | rfl | (simp only [List.length_drop, List.length_take]; rfl)) ?_; (with_reducible refine (rangeproof_Extract.calls a6_0 a6_1 a6_2 a6_3 a6_4 a6_5 a6_6 a7_0 a7_1 a7_2 a7_3 a7_4 a7_5 a7_6 t264 t265 t266 _ A18.out).mono ?_); rintro e w34 ⟨rfl, hb⟩; refine ⟨_, rfl, ?_⟩; have n0_ := Aside0.mk (Kd.R_below (by (with_reducible repeat (first | apply Kd.R_alloc | apply Kd.R_drewN | apply Kd.R_drew)); exact HO259.out) hb); have n1_ := Aside0.mk (Kd.R_below (by (with_reducible repeat (first | apply Kd.R_alloc | apply Kd.R_drewN | apply Kd.R_drew)); exact HO263.out) hb); have n2_ := Aside0.mk (blk_below (g := gb253) (o := .cells #[.int .i64 a6_0, .int .i64 a6_1, .int .i64 a6_2, .int .i64 a6_3, .int .i64 a6_4, .int .i64 a6_5, .int .i64 a6_6] 25 (0, 0)) (by (with_reducible repeat (first | refine blk_drewN ?_ _ | refine blk_drew ?_ | refine blk_alloc ?_ _)); exact BK253.out) hb); have n3_ := Aside0.mk (blk_below (g := gb254) (o := .cells #[.int .i64 a7_0, .int .i64 a7_1, .int .i64 a7_2, .int .i64 a7_3, .int .i64 a7_4, .int .i64 a7_5, .int .i64 a7_6] 25 (0, 0)) (by (with_reducible repeat (first | refine blk_drewN ?_ _ | refine blk_drew ?_ | refine blk_alloc ?_ _)); exact BK254.out) hb); have n4_ := Aside0.mk (below_step (by repeat (first | (with_reducible first | exact HB.out | apply below_alloc | apply pw_below_drewN | apply below_drew1 | refine below_set ?_ GE253.out | refine below_set ?_ GE254.out) | exact HB.out)) hb); clear HO259; clear HO263; clear BK253; clear BK254; clear HB; have HO259 := n0_; have HO263 := n1_; have BK253 := n2_; have BK254 := n3_; have HB := n4_; clear n0_ n1_ n2_ n3_ n4_; (try clear hb); (try clear hb2); (try clear hk); (try clear hi); have hcz35_0 : w34.cell? ⟨gb253, 0, none⟩ = some (.int .i64 a6_0) := (blk_cell BK253.out 0).trans rfl; have hcz35_1 : w34.cell? ⟨gb253, 1, none⟩ = some (.int .i64 a6_1) := (blk_cell BK253.out 1).trans rfl; have hcz35_2 : w34.cell? ⟨gb253, 2, none⟩ = some (.int .i64 a6_2) := (blk_cell BK253.out 2).trans rfl; have hcz35_3 : w34.cell? ⟨gb253, 3, none⟩ = some (.int .i64 a6_3) := (blk_cell BK253.out 3).trans rfl; have hcz35_4 : w34.cell? ⟨gb253, 4, none⟩ = some (.int .i64 a6_4) := (blk_cell BK253.out 4).trans rfl; have hcz35_5 : w34.cell? ⟨gb253, 5, none⟩ = some (.int .i64 a6_5) := (blk_cell BK253.out 5).trans rfl; have hcz35_6 : w34.cell? ⟨gb253, 6, none⟩ = some (.int .i64 a6_6) := (blk_cell BK253.out 6).trans rfl; have hfz35_0 := blk_frozen BK253.out 0; have hfz35_1 := blk_frozen BK253.out 1; have hfz35_2 := blk_frozen BK253.out 2; have hfz35_3 := blk_frozen BK253.out 3; have hfz35_4 := blk_frozen BK253.out 4; have hfz35_5 := blk_frozen BK253.out 5; have hfz35_6 := blk_frozen BK253.out 6; have hcz36_0 : w34.cell? ⟨gb254, 0, none⟩ = some (.int .i64 a7_0) := (blk_cell BK254.out 0).trans rfl; have hcz36_1 : w34.cell? ⟨gb254, 1, none⟩ = some (.int .i64 a7_1) := (blk_cell BK254.out 1).trans rfl; have hcz36_2 : w34.cell? ⟨gb254, 2, none⟩ = some (.int .i64 a7_2) := (blk_cell BK254.out 2).trans rfl; have hcz36_3 : w34.cell? ⟨gb254, 3, none⟩ = some (.int .i64 a7_3) := (blk_cell BK254.out 3).trans rfl; have hcz36_4 : w34.cell? ⟨gb254, 4, none⟩ = some (.int .i64 a7_4) := (blk_cell BK254.out 4).trans rfl; have hcz36_5 : w34.cell? ⟨gb254, 5, none⟩ = some (.int .i64 a7_5) := (blk_cell BK254.out 5).trans rfl; have hcz36_6 : w34.cell? ⟨gb254, 6, none⟩ = some (.int .i64 a7_6) := (blk_cell BK254.out 6).trans rfl; have hfz36_0 := blk_frozen BK254.out 0; have hfz36_1 := blk_frozen BK254.out 1; have hfz36_2 := blk_frozen BK254.out 2; have hfz36_3 := blk_frozen BK254.out 3; have hfz36_4 := blk_frozen BK254.out 4; have hfz36_5 := blk_frozen BK254.out 5; have hfz36_6 := blk_frozen BK254.out 6) | ((with_reducible refine gate_callee (f := 13) rfl ?_); refine goesL_ (some 64) rfl rfl Tryd.func13 (by kernel_rfl) rfl #[.agg #[.int .i64 a6_0, .int .i64 a6_1, .int .i64 a6_2, .int .i64 a6_3, .int .i64 a6_4, .int .i64 a6_5, .int .i64 a6_6], .agg #[.int .i64 a7_0, .int .i64 a7_1, .int .i64 a7_2, .int .i64 a7_3, .int .i64 a7_4, .int .i64 a7_5, .int .i64 a7_6]] rfl (by (try simp only [List.map_toArray, List.map_cons, List.map_nil]); first | done | rfl | (simp only [List.length_drop, List.length_take]; rfl)) ?_; (with_reducible refine (wageofficeref27_Extract.calls a6_0 a6_1 a6_2 a6_3 a6_4 a6_5 a6_6 a7_0 a7_1 a7_2 a7_3 a7_4 a7_5 a7_6 t267 t268 t269 _ A19.out).mono ?_); rintro e w37 ⟨rfl, hb⟩; refine ⟨_, rfl, ?_⟩; have n0_ := Aside0.mk (Kd.R_below (by (with_reducible repeat (first | apply Kd.R_alloc | apply Kd.R_drewN | apply Kd.R_drew)); exact HO259.out) hb); have n1_ := Aside0.mk (Kd.R_below (by (with_reducible repeat (first | apply Kd.R_alloc | apply Kd.R_drewN | apply Kd.R_drew)); exact HO263.out) hb); have n2_ := Aside0.mk (blk_below (g := gb253) (o := .cells #[.int .i64 a6_0, .int .i64 a6_1, .int .i64 a6_2, .int .i64 a6_3, .int .i64 a6_4, .int .i64 a6_5, .int .i64 a6_6] 25 (0, 0)) (by (with_reducible repeat (first | refine blk_drewN ?_ _ | refine blk_drew ?_ | refine blk_alloc ?_ _)); exact BK253.out) hb); have n3_ := Aside0.mk (blk_below (g := gb254) (o := .cells #[.int .i64 a7_0, .int .i64 a7_1, .int .i64 a7_2, .int .i64 a7_3, .int .i64 a7_4, .int .i64 a7_5, .int .i64 a7_6] 25 (0, 0)) (by (with_reducible repeat (first | refine blk_drewN ?_ _ | refine blk_drew ?_ | refine blk_alloc ?_ _)); exact BK254.out) hb); have n4_ := Aside0.mk (below_step (by repeat (first | (with_reducible first | exact HB.out | apply below_alloc | apply pw_below_drewN | apply below_drew1 | refine below_set ?_ GE253.out | refine below_set ?_ GE254.out) | exact HB.out)) hb); clear HO259; clear HO263; clear BK253; clear BK254; clear HB; have HO259 := n0_; have HO263 := n1_; have BK253 := n2_; have BK254 := n3_; have HB := n4_; clear n0_ n1_ n2_ n3_ n4_; (try clear hb); (try clear hb2); (try clear hk); (try clear hi); obtain ⟨Ao38, co38, eo38⟩ := Kd.R_slice HO259.out; subst eo38; obtain ⟨Ao39, co39, eo39⟩ := Kd.R_slice HO263.out; subst eo39) | (go_at_call 14; (with_reducible refine (wageofficeref27_Same.calls kj9 _ _ t256 _ _ t260 true _ ?side1 ?side2 ?side3 ?side4 A22.out).mono ?_); (case side1 => repeat (first | exact (Kd.R_reads' HO259.out).2.2 | (with_reducible refine Kd.C_alloc ?_ _) | (with_reducible refine Kd.C_drewN ?_ _) | (with_reducible refine Kd.C_drew ?_))); (case side2 => exact (Kd.R_reads' HO259.out).2.1); (case side3 => repeat (first | exact (Kd.R_reads' HO263.out).2.2 | (with_reducible refine Kd.C_alloc ?_ _) | (with_reducible refine Kd.C_drewN ?_ _) | (with_reducible refine Kd.C_drew ?_))); (case side4 => exact (Kd.R_reads' HO263.out).2.1); rintro e w' ⟨rfl, ⟨nd, rfl⟩⟩) | (go_at_call 15; (with_reducible refine (rangeproof_Verify.calls kj9 a4 a2 _ _ l5 t271 _ ?side1 ?side2 A24.out (TabTen.below hTTen.out (by repeat (first | exact HB.out | exact Below.refl _ _ | apply below_alloc | apply pw_below_drewN | apply below_drew1 | apply below_drew | refine below_set ?_ GE253.out | refine below_set ?_ GE254.out)))).mono ?_); (case side1 => repeat (first | exact (Kd.C_below HR5.out (by repeat (first | (with_reducible first | exact HB.out | apply below_alloc | apply pw_below_drewN | apply below_drew1 | refine below_set ?_ GE253.out | refine below_set ?_ GE254.out) | exact HB.out))) | (with_reducible refine Kd.C_alloc ?_ _) | (with_reducible refine Kd.C_drewN ?_ _) | (with_reducible refine Kd.C_drew ?_))); (case side2 => exact HC5.out); rintro e w40 ⟨rfl, hb⟩; have n0_ := Aside0.mk (Kd.R_below (by (with_reducible repeat (first | apply Kd.R_alloc | apply Kd.R_drewN | apply Kd.R_drew)); exact HO259.out) hb); have n1_ := Aside0.mk (Kd.R_below (by (with_reducible repeat (first | apply Kd.R_alloc | apply Kd.R_drewN | apply Kd.R_drew)); exact HO263.out) hb); have n2_ := Aside0.mk (blk_below (g := gb253) (o := .cells #[.int .i64 a6_0, .int .i64 a6_1, .int .i64 a6_2, .int .i64 a6_3, .int .i64 a6_4, .int .i64 a6_5, .int .i64 a6_6] 25 (0, 0)) (by (with_reducible repeat (first | refine blk_drewN ?_ _ | refine blk_drew ?_ | refine blk_alloc ?_ _)); exact BK253.out) hb); have n3_ := Aside0.mk (blk_below (g := gb254) (o := .cells #[.int .i64 a7_0, .int .i64 a7_1, .int .i64 a7_2, .int .i64 a7_3, .int .i64 a7_4, .int .i64 a7_5, .int .i64 a7_6] 25 (0, 0)) (by (with_reducible repeat (first | refine blk_drewN ?_ _ | refine blk_drew ?_ | refine blk_alloc ?_ _)); exact BK254.out) hb); have n4_ := Aside0.mk (below_step (by repeat (first | (with_reducible first | exact HB.out | apply below_alloc | apply pw_below_drewN | apply below_drew1 | refine below_set ?_ GE253.out | refine below_set ?_ GE254.out) | exact HB.out)) hb); clear HO259; clear HO263; clear BK253; clear BK254; clear HB; have HO259 := n0_; have HO263 := n1_; have BK253 := n2_; have BK254 := n3_; have HB := n4_; clear n0_ n1_ n2_ n3_ n4_; (try clear hb); (try clear hb2); (try clear hk); (try clear hi)) | (go_at_call 16; (with_reducible refine (wageofficeref27_Verify.calls kj9 a4 a2 _ _ l5 t272 _ ?side1 ?side2 A25.out).mono ?_); (case side1 => repeat (first | exact (Kd.C_below HR5.out HB.out) | (with_reducible refine Kd.C_alloc ?_ _) | (with_reducible refine Kd.C_drewN ?_ _) | (with_reducible refine Kd.C_drew ?_))); (case side2 => exact HC5.out); rintro e w41 ⟨rfl, hb⟩; have n0_ := Aside0.mk (Kd.R_below (by (with_reducible repeat (first | apply Kd.R_alloc | apply Kd.R_drewN | apply Kd.R_drew)); exact HO259.out) hb); have n1_ := Aside0.mk (Kd.R_below (by (with_reducible repeat (first | apply Kd.R_alloc | apply Kd.R_drewN | apply Kd.R_drew)); exact HO263.out) hb); have n2_ := Aside0.mk (blk_below (g := gb253) (o := .cells #[.int .i64 a6_0, .int .i64 a6_1, .int .i64 a6_2, .int .i64 a6_3, .int .i64 a6_4, .int .i64 a6_5, .int .i64 a6_6] 25 (0, 0)) (by (with_reducible repeat (first | refine blk_drewN ?_ _ | refine blk_drew ?_ | refine blk_alloc ?_ _)); exact BK253.out) hb); have n3_ := Aside0.mk (blk_below (g := gb254) (o := .cells #[.int .i64 a7_0, .int .i64 a7_1, .int .i64 a7_2, .int .i64 a7_3, .int .i64 a7_4, .int .i64 a7_5, .int .i64 a7_6] 25 (0, 0)) (by (with_reducible repeat (first | refine blk_drewN ?_ _ | refine blk_drew ?_ | refine blk_alloc ?_ _)); exact BK254.out) hb); have n4_ := Aside0.mk (below_step (by repeat (first | (with_reducible first | exact HB.out | apply below_alloc | apply pw_below_drewN | apply below_drew1 | refine below_set ?_ GE253.out | refine below_set ?_ GE254.out) | exact HB.out)) hb); clear HO259; clear HO263; clear BK253; clear BK254; clear HB; have HO259 := n0_; have HO263 := n1_; have BK253 := n2_; have BK254 := n3_; have HB := n4_; clear n0_ n1_ n2_ n3_ n4_; (try clear hb); (try clear hb2); (try clear hk); (try clear hi)))
          go_ret
          exact ⟨by first | rfl | (simp [errW_none, errW_some] <;> rfl) | (simp [*, errW_none, errW_some] <;> rfl), by repeat (first | (with_reducible first | exact HB.out | apply below_alloc | apply pw_below_drewN | apply below_drew1 | refine below_set ?_ GE253.out | refine below_set ?_ GE254.out) | exact HB.out)⟩
         ·rw [if_neg c28] at H
          have c28b0 : (t265 == t268) = false := beq_eq_false_iff_ne.mpr c28
          have c28b1 : (t265 != t268) = true := bne_iff_ne.mpr c28
          exact absurd (H.trans (congrArg some hRT.out)) (by simp)
        ·rw [if_neg c27] at H
         have c27b0 : (t264 == t267) = false := beq_eq_false_iff_ne.mpr c27
         have c27b1 : (t264 != t267) = true := bne_iff_ne.mpr c27
         exact absurd (H.trans (congrArg some hRT.out)) (by simp)
       ·rw [if_neg c26] at H
        have c26b0 : (t271 == t272) = false := by simpa using c26
        (try (have c26b1 : decide (t271 = t272) = false := by simpa using c26))
        (try (have c26b2 : (t271 == t272) = false := by simpa using c26))
        (try (have c26b3 : ¬ (t271 = t272) := by simpa using c26))
        clear c26
        exact absurd (H.trans (congrArg some hRT.out)) (by simp)
      ·replace c23 := Bool.eq_false_iff.mpr c23
       subst c23
       have H1 : (some false) = some r := by rw [if_neg (show ¬ (false = true) by decide)] at H; exact H
       clear H
       have H := H1
       clear H1
       exact absurd (H.trans (congrArg some hRT.out)) (by simp)
     ·rw [if_neg c21] at H
      have c21b0 : (t257 == t261) = false := beq_eq_false_iff_ne.mpr c21
      have c21b1 : (t257 != t261) = true := bne_iff_ne.mpr c21
      exact absurd (H.trans (congrArg some hRT.out)) (by simp)
    ·replace c20 := Bool.eq_false_iff.mpr c20
     subst c20
     have H1 : (some false) = some r := by rw [if_neg (show ¬ (false = true) by decide)] at H; exact H
     clear H
     have H := H1
     clear H1
     exact absurd (H.trans (congrArg some hRT.out)) (by simp)

end Go.Proofs.YtnlgnmlobklobaaDoor.PAll
