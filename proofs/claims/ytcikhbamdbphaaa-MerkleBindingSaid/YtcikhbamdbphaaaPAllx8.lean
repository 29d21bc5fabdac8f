-- Written by ext.py out of a printed text (myprint.py over the kit's print.py).
import Derived.Test.YtcikhbamdbphaaaStubHead
import Derived.Test.YtcikhbamdbphaaaPAllx0
import Derived.Test.YtcikhbamdbphaaaPAllx2
namespace Go.Proofs.Ytcikhbamdbphaaa.PAll
open Go.Proofs.Ytcikhbamdbphaaa.Stub
open Go.RowKit Go.Proofs.YtcikhbamdbphaaaW.PrintWords Go.Proofs.YtcikhbamdbphaaaW.PrintLast Go.Proofs.YtcikhbamdbphaaaW.PrintMore
attribute [local go_sem] max2_int min2_int max_two min_two max_three min_three max_four min_four   -- for this text's walks alone
set_option linter.unusedVariables false
set_option linter.unusedSimpArgs false

attribute [local go_sem high] eqA42
/-! ### wageofficelaw24_MerkleBinding: function 7 -/
mutual
def wageofficelaw24_MerkleBinding.j0 : Nat → Int → Int → Int → ByteArray → List (S42) → ByteArray → List (S42) → Bool → Bool → Option (Bool)
  | 0, _, _, _, _, _, _, _, _, _ => none
  | k + 1, x0, x1, x2, x3, x4, x5, x6, x15, x37 => if x37 = true then (some x15) else ((merkle_Collision.f x1 x2 x3 x4 x5 x6).bind fun bt105 => (if (bt105.2.2 != (bt105.1.toList != bt105.2.1.toList)) = true then (wageofficelaw24_MerkleBinding.j1 k x0 x1 x2 x3 x4 x5 x6 x15 bt105.2.2 true) else (if bt105.2.2 = true then ((digest_Sum.f bt105.1).bind fun t108 => ((digest_Sum.f bt105.2.1).bind fun t109 => (wageofficelaw24_MerkleBinding.j1 k x0 x1 x2 x3 x4 x5 x6 x15 bt105.2.2 (t108 != t109)))) else (wageofficelaw24_MerkleBinding.j1 k x0 x1 x2 x3 x4 x5 x6 x15 bt105.2.2 false))))
def wageofficelaw24_MerkleBinding.j1 : Nat → Int → Int → Int → ByteArray → List (S42) → ByteArray → List (S42) → Bool → Bool → Bool → Option (Bool)
  | 0, _, _, _, _, _, _, _, _, _, _ => none
  | k + 1, x0, x1, x2, x3, x4, x5, x6, x15, x18, x64 => if x64 = true then (some false) else ((merkle_Verify.f x0 x1 x2 x3 x4).bind fun t110 => (if t110 = true then ((merkle_Verify.f x0 x1 x2 x5 x6).bind fun t111 => (if t111 = true then (if x15 = true then (if x3.toList = x5.toList then ((wageofficeref24_Same.f k x4 x6).bind fun t112 => (some (x18 == (!t112)))) else (some (x18 == true))) else (some false)) else (some x15))) else (some x15)))
end
def wageofficelaw24_MerkleBinding.f (k : Nat) (a0 : Int) (a1 : Int) (a2 : Int) (a3 : ByteArray) (l4 : List (S42)) (a5 : ByteArray) (l6 : List (S42)) : Option (Bool) := (wageofficelaw24_head.f).bind fun t104 => (if (a3.size : Int) > 60 then (wageofficelaw24_MerkleBinding.j0 k a0 a1 a2 a3 l4 a5 l6 t104 true) else (if (a5.size : Int) > 60 then (wageofficelaw24_MerkleBinding.j0 k a0 a1 a2 a3 l4 a5 l6 t104 true) else (if (l4.length : Int) > 20 then (wageofficelaw24_MerkleBinding.j0 k a0 a1 a2 a3 l4 a5 l6 t104 true) else (wageofficelaw24_MerkleBinding.j0 k a0 a1 a2 a3 l4 a5 l6 t104 (decide ((l6.length : Int) > 20))))))
theorem wageofficelaw24_MerkleBinding.mono_l : ∀ k, (∀ y0 y1 y2 y3 y4 y5 y6 y7 y8, LeO (wageofficelaw24_MerkleBinding.j0 k y0 y1 y2 y3 y4 y5 y6 y7 y8) (wageofficelaw24_MerkleBinding.j0 (k + 1) y0 y1 y2 y3 y4 y5 y6 y7 y8)) ∧ (∀ y0 y1 y2 y3 y4 y5 y6 y7 y8 y9, LeO (wageofficelaw24_MerkleBinding.j1 k y0 y1 y2 y3 y4 y5 y6 y7 y8 y9) (wageofficelaw24_MerkleBinding.j1 (k + 1) y0 y1 y2 y3 y4 y5 y6 y7 y8 y9))
  | 0 => ⟨fun _ _ _ _ _ _ _ _ _ r h => by simp [wageofficelaw24_MerkleBinding.j0] at h, fun _ _ _ _ _ _ _ _ _ _ r h => by simp [wageofficelaw24_MerkleBinding.j1] at h⟩
  | k + 1 => by
    obtain ⟨ih0, ih1⟩ := wageofficelaw24_MerkleBinding.mono_l k
    refine ⟨?_, ?_⟩
    · intro y0 y1 y2 y3 y4 y5 y6 y7 y8
      unfold wageofficelaw24_MerkleBinding.j0
      repeat' first
      | (with_reducible exact ih0 _ _ _ _ _ _ _ _ _)
      | (with_reducible exact ih1 _ _ _ _ _ _ _ _ _ _)
      | (with_reducible exact wageofficeref24_Same.mono _ _ _)
      | (with_reducible exact LeO.refl _)
      | (with_reducible exact LeO.none _)
      | (with_reducible refine LeO.ite ?_ ?_)
      | (with_reducible refine LeO.bind ?_ (fun _ => ?_))
      | exact ih0 _ _ _ _ _ _ _ _ _
      | exact ih1 _ _ _ _ _ _ _ _ _ _
      | exact wageofficeref24_Same.mono _ _ _
      | exact LeO.none _
      | refine LeO.ite ?_ ?_
      | refine LeO.bind ?_ (fun _ => ?_)
    · intro y0 y1 y2 y3 y4 y5 y6 y7 y8 y9
      unfold wageofficelaw24_MerkleBinding.j1
      repeat' first
      | (with_reducible exact ih0 _ _ _ _ _ _ _ _ _)
      | (with_reducible exact ih1 _ _ _ _ _ _ _ _ _ _)
      | (with_reducible exact wageofficeref24_Same.mono _ _ _)
      | (with_reducible exact LeO.refl _)
      | (with_reducible exact LeO.none _)
      | (with_reducible refine LeO.ite ?_ ?_)
      | (with_reducible refine LeO.bind ?_ (fun _ => ?_))
      | exact ih0 _ _ _ _ _ _ _ _ _
      | exact ih1 _ _ _ _ _ _ _ _ _ _
      | exact wageofficeref24_Same.mono _ _ _
      | exact LeO.none _
      | refine LeO.ite ?_ ?_
      | refine LeO.bind ?_ (fun _ => ?_)
theorem wageofficelaw24_MerkleBinding.mono : ∀ a0 a1 a2 a3 a4 a5 a6 k, LeO (wageofficelaw24_MerkleBinding.f k a0 a1 a2 a3 a4 a5 a6) (wageofficelaw24_MerkleBinding.f (k + 1) a0 a1 a2 a3 a4 a5 a6) := by
  intro a0 a1 a2 a3 a4 a5 a6 k
  obtain ⟨ih0, ih1⟩ := wageofficelaw24_MerkleBinding.mono_l k
  unfold wageofficelaw24_MerkleBinding.f
  repeat' first
      | (with_reducible exact ih0 _ _ _ _ _ _ _ _ _)
      | (with_reducible exact ih1 _ _ _ _ _ _ _ _ _ _)
      | (with_reducible exact wageofficeref24_Same.mono _ _ _)
      | (with_reducible exact LeO.refl _)
      | (with_reducible exact LeO.none _)
      | (with_reducible refine LeO.ite ?_ ?_)
      | (with_reducible refine LeO.bind ?_ (fun _ => ?_))
      | exact ih0 _ _ _ _ _ _ _ _ _
      | exact ih1 _ _ _ _ _ _ _ _ _ _
      | exact wageofficeref24_Same.mono _ _ _
      | exact LeO.none _
      | refine LeO.ite ?_ ?_
      | refine LeO.bind ?_ (fun _ => ?_)
set_option maxHeartbeats 8000000 in
set_option maxRecDepth 100000 in
theorem wageofficelaw24_MerkleBinding.calls (k : Nat) (a0 : Int) (a1 : Int) (a2 : Int) (a3 : ByteArray) (A4 : Option Addr) (c4 : Nat) (l4 : List (S42)) (a5 : ByteArray) (A6 : Option Addr) (c6 : Nat) (l6 : List (S42)) (r : Bool) (w : World) (hr4 : Kd.C k42 w A4 l4.length l4) (hc4 : l4.length ≤ c4) (hr6 : Kd.C k42 w A6 l6.length l6) (hc6 : l6.length ≤ c6) (h : wageofficelaw24_MerkleBinding.f k a0 a1 a2 a3 l4 a5 l6 = some r) :
    Calls Try.prog 7 #[.int .u64 a0, .int .i64 a1, .int .i64 a2, .string a3, .slice A4 l4.length c4, .string a5, .slice A6 l6.length c6] w fun e w' => e = .returned (.bool r) ∧ Below w.heap.size w w' := by
  have HR4 := Aside0.mk hr4
  have HC4 := Aside0.mk hc4
  clear hr4 hc4
  have HR6 := Aside0.mk hr6
  have HC6 := Aside0.mk hc6
  clear hr6 hc6
  have HB := Aside0.mk (Below.refl w.heap.size w)
  have H : ((wageofficelaw24_head.f).bind fun t104 => (if (a3.size : Int) > 60 then (wageofficelaw24_MerkleBinding.j0 k a0 a1 a2 a3 l4 a5 l6 t104 true) else (if (a5.size : Int) > 60 then (wageofficelaw24_MerkleBinding.j0 k a0 a1 a2 a3 l4 a5 l6 t104 true) else (if (l4.length : Int) > 20 then (wageofficelaw24_MerkleBinding.j0 k a0 a1 a2 a3 l4 a5 l6 t104 true) else (wageofficelaw24_MerkleBinding.j0 k a0 a1 a2 a3 l4 a5 l6 t104 (decide ((l6.length : Int) > 20))))))) = some r := h
  clear h
  replace H := Option.bind_eq_some_iff.mp H
  obtain ⟨t104, A80, H⟩ := H
  replace H : (if (a3.size : Int) > 60 then (wageofficelaw24_MerkleBinding.j0 k a0 a1 a2 a3 l4 a5 l6 t104 true) else (if (a5.size : Int) > 60 then (wageofficelaw24_MerkleBinding.j0 k a0 a1 a2 a3 l4 a5 l6 t104 true) else (if (l4.length : Int) > 20 then (wageofficelaw24_MerkleBinding.j0 k a0 a1 a2 a3 l4 a5 l6 t104 true) else (wageofficelaw24_MerkleBinding.j0 k a0 a1 a2 a3 l4 a5 l6 t104 (decide ((l6.length : Int) > 20)))))) = some r := H
  have A8 := Aside0.mk A80
  clear A80
  have HC9 := Aside0.mk H
  clear H
  go_enter Try.func7, Try.ntmps7
  go_upto_region 2 with (first | ((with_reducible refine gate_callee (f := 11) rfl ?_); refine goesL_ (some 19) rfl rfl Try.func11 (by kernel_rfl) rfl #[] rfl (by (try simp only [List.map_toArray, List.map_cons, List.map_nil]); first | done | rfl | (simp only [List.length_drop, List.length_take]; rfl)) ?_; (with_reducible refine (wageofficelaw24_head.calls  t104 _ A8.out).mono ?_); rintro e w10 ⟨rfl, hb⟩; refine ⟨_, rfl, ?_⟩; have n0_ := Aside0.mk (below_step (by repeat (first | (with_reducible first | exact HB.out | apply below_alloc | apply pw_below_drewN | apply below_drew1) | exact HB.out)) hb); clear HB; have HB := n0_; clear n0_; (try clear hb); (try clear hb2); (try clear hk); (try clear hi)))
  (try simp only [Act.put, List.setIfInBounds_toArray, List.set_cons_zero, List.set_cons_succ])
  go_cut [37] (fun v37 wc => ∃ (kq : Nat) (x37_8 : Bool), v37 = .bool x37_8 ∧ Aside0 (wageofficelaw24_MerkleBinding.j0 kq a0 a1 a2 a3 l4 a5 l6 t104 x37_8 = some r) ∧ Aside0 (kq ≤ k) ∧ Aside0 (Below w.heap.size w wc))
  case first =>
    have H := HC9.out
    clear HC9
    by_cases c11 : (a3.size : Int) > 60
    · rw [if_pos c11] at H
      have c11b0 : decide (60 < (a3.size : Int)) = true := decide_eq_true c11
      have c11b1 : decide (60 < a3.size) = true := decide_eq_true (by omega)
      clear c11
      (first | rw [c11b0] | (simp only [i64_w, i32_w]; rw [c11b0]) | skip)
      have H' := Aside0.mk H
      clear H
      go_wp2
      go_meet
      case rel => exact ⟨_, (true), (by first | rfl | (simp; done) | (simp [*]; done)), H', ⟨by first | omega | exact Nat.le_refl _⟩, ⟨by repeat (first | (with_reducible first | exact HB.out | apply below_alloc | apply pw_below_drewN | apply below_drew1) | exact HB.out)⟩⟩
    · rw [if_neg c11] at H
      have c11b0 : decide (60 < (a3.size : Int)) = false := decide_eq_false c11
      have c11b1 : decide (60 < a3.size) = false := decide_eq_false (by omega)
      clear c11
      (first | rw [c11b0] | (simp only [i64_w, i32_w]; rw [c11b0]) | skip)
      by_cases c12 : (a5.size : Int) > 60
      · rw [if_pos c12] at H
        have c12b0 : decide (60 < (a5.size : Int)) = true := decide_eq_true c12
        have c12b1 : decide (60 < a5.size) = true := decide_eq_true (by omega)
        clear c12
        have H' := Aside0.mk H
        clear H
        go_wp2
        go_meet
        case rel => exact ⟨_, (true), (by first | rfl | (simp; done) | (simp [*]; done)), H', ⟨by first | omega | exact Nat.le_refl _⟩, ⟨by repeat (first | (with_reducible first | exact HB.out | apply below_alloc | apply pw_below_drewN | apply below_drew1) | exact HB.out)⟩⟩
      · rw [if_neg c12] at H
        have c12b0 : decide (60 < (a5.size : Int)) = false := decide_eq_false c12
        have c12b1 : decide (60 < a5.size) = false := decide_eq_false (by omega)
        clear c12
        by_cases c13 : (l4.length : Int) > 20
        · rw [if_pos c13] at H
          have c13b0 : decide (20 < (l4.length : Int)) = true := decide_eq_true c13
          have c13b1 : decide (20 < l4.length) = true := decide_eq_true (by omega)
          clear c13
          have H' := Aside0.mk H
          clear H
          go_wp2
          go_meet
          case rel => exact ⟨_, (true), (by first | rfl | (simp; done) | (simp [*]; done)), H', ⟨by first | omega | exact Nat.le_refl _⟩, ⟨by repeat (first | (with_reducible first | exact HB.out | apply below_alloc | apply pw_below_drewN | apply below_drew1) | exact HB.out)⟩⟩
        · rw [if_neg c13] at H
          have c13b0 : decide (20 < (l4.length : Int)) = false := decide_eq_false c13
          have c13b1 : decide (20 < l4.length) = false := decide_eq_false (by omega)
          clear c13
          have H' := Aside0.mk H
          clear H
          go_wp2
          go_meet
          case rel => exact ⟨_, (decide ((l6.length : Int) > 20)), (by first | rfl | (simp; done) | (simp [*]; done)), H', ⟨by first | omega | exact Nat.le_refl _⟩, ⟨by repeat (first | (with_reducible first | exact HB.out | apply below_alloc | apply pw_below_drewN | apply below_drew1) | exact HB.out)⟩⟩
  case rest =>
    clear HC9
    try clear c1
    try clear p2
    try clear c4
    try clear c6
    try clear c7
    try clear c11
    try clear c11b0
    try clear c11b1
    try clear c12
    try clear c12b0
    try clear c12b1
    try clear c13
    try clear c13b0
    try clear c13b1
    obtain ⟨kq, x37_8, rfl, HA, HJ8, HB⟩ := hcut
    cases kq with
    | zero => exact absurd HA.out (by simp [wageofficelaw24_MerkleBinding.j0])
    | succ kj8 =>
      have H := HA.out
      clear HA
      simp only [wageofficelaw24_MerkleBinding.j0] at H
      by_cases c14 : x37_8 = true
      · subst c14
        have H1 : (some t104) = some r := by rw [if_pos rfl] at H; exact H
        clear H
        have H := H1
        clear H1
        obtain rfl := Option.some.inj H
        go_wp2
        go_ret
        exact ⟨by first | rfl | (simp [errW_none, errW_some] <;> rfl) | (simp [*, errW_none, errW_some] <;> rfl), by repeat (first | (with_reducible first | exact HB.out | apply below_alloc | apply pw_below_drewN | apply below_drew1) | exact HB.out)⟩
      · replace c14 := Bool.eq_false_iff.mpr c14
        subst c14
        have H1 : ((merkle_Collision.f a1 a2 a3 l4 a5 l6).bind fun bt105 => (if (bt105.2.2 != (bt105.1.toList != bt105.2.1.toList)) = true then (wageofficelaw24_MerkleBinding.j1 kj8 a0 a1 a2 a3 l4 a5 l6 t104 bt105.2.2 true) else (if bt105.2.2 = true then ((digest_Sum.f bt105.1).bind fun t108 => ((digest_Sum.f bt105.2.1).bind fun t109 => (wageofficelaw24_MerkleBinding.j1 kj8 a0 a1 a2 a3 l4 a5 l6 t104 bt105.2.2 (t108 != t109)))) else (wageofficelaw24_MerkleBinding.j1 kj8 a0 a1 a2 a3 l4 a5 l6 t104 bt105.2.2 false)))) = some r := by rw [if_neg (show ¬ (false = true) by decide)] at H; exact H
        clear H
        have H := H1
        clear H1
        replace H := Option.bind_eq_some_iff.mp H
        obtain ⟨⟨t105, t106, t107⟩, A150, H⟩ := H
        replace H : (if (t107 != (t105.toList != t106.toList)) = true then (wageofficelaw24_MerkleBinding.j1 kj8 a0 a1 a2 a3 l4 a5 l6 t104 t107 true) else (if t107 = true then ((digest_Sum.f t105).bind fun t108 => ((digest_Sum.f t106).bind fun t109 => (wageofficelaw24_MerkleBinding.j1 kj8 a0 a1 a2 a3 l4 a5 l6 t104 t107 (t108 != t109)))) else (wageofficelaw24_MerkleBinding.j1 kj8 a0 a1 a2 a3 l4 a5 l6 t104 t107 false))) = some r := H
        have A15 := Aside0.mk A150
        clear A150
        have HC16 := Aside0.mk H
        clear H
        go_upto_region 5 with (first | ((with_reducible refine gate_callee (f := 20) rfl ?_); refine goesL_ (some 46) rfl rfl Try.func20 (by kernel_rfl) rfl #[.int .i64 a1, .int .i64 a2, .string a3, .slice A4 l4.length c4, .string a5, .slice A6 l6.length c6] rfl (by (try simp only [List.map_toArray, List.map_cons, List.map_nil]); first | done | rfl | (simp only [List.length_drop, List.length_take]; rfl)) ?_; (with_reducible refine (merkle_Collision.calls a1 a2 a3 _ _ l4 a5 _ _ l6 t105 t106 t107 _ ?side1 ?side2 ?side3 ?side4 A15.out).mono ?_); (case side1 => repeat (first | exact (Kd.C_below HR4.out HB.out) | (with_reducible refine Kd.C_alloc ?_ _) | (with_reducible refine Kd.C_drewN ?_ _) | (with_reducible refine Kd.C_drew ?_))); (case side2 => exact HC4.out); (case side3 => repeat (first | exact (Kd.C_below HR6.out HB.out) | (with_reducible refine Kd.C_alloc ?_ _) | (with_reducible refine Kd.C_drewN ?_ _) | (with_reducible refine Kd.C_drew ?_))); (case side4 => exact HC6.out); rintro e w17 ⟨rfl, hb⟩; refine ⟨_, rfl, ?_⟩; have n0_ := Aside0.mk (below_step (by repeat (first | (with_reducible first | exact HB.out | apply below_alloc | apply pw_below_drewN | apply below_drew1) | exact HB.out)) hb); clear HB; have HB := n0_; clear n0_; (try clear hb); (try clear hb2); (try clear hk); (try clear hi)))
        (try simp only [Act.put, List.setIfInBounds_toArray, List.set_cons_zero, List.set_cons_succ])
        go_cut [64] (fun v64 wc => ∃ (kq : Nat) (x64_15 : Bool), v64 = .bool x64_15 ∧ Aside0 (wageofficelaw24_MerkleBinding.j1 kq a0 a1 a2 a3 l4 a5 l6 t104 t107 x64_15 = some r) ∧ Aside0 (kq ≤ kj8) ∧ Aside0 (Below w.heap.size w wc))
        case first =>
          have H := HC16.out
          clear HC16
          by_cases c17 : t105.toList = t106.toList
          · have c17b0 : (t105.toList == t106.toList) = true := beq_iff_eq.mpr c17
            have c17b1 : (t105.toList != t106.toList) = false := bne_eq_false_iff_eq.mpr c17
            rw [c17b1] at H
            clear c17
            cases t107 with
            | true =>
              rw [if_pos (by decide)] at H
              have H' := Aside0.mk H
              clear H
              go_wp2
              go_meet
              case rel => exact ⟨_, (true), (by first | rfl | (simp; done) | (simp [*]; done)), H', ⟨by have := HJ8.out; first | omega | exact Nat.le_refl _⟩, ⟨by repeat (first | (with_reducible first | exact HB.out | apply below_alloc | apply pw_below_drewN | apply below_drew1) | exact HB.out)⟩⟩
            | false =>
              rw [if_neg (by decide), if_neg (by decide)] at H
              have H' := Aside0.mk H
              clear H
              go_wp2
              go_meet
              case rel => exact ⟨_, (false), (by first | rfl | (simp; done) | (simp [*]; done)), H', ⟨by have := HJ8.out; first | omega | exact Nat.le_refl _⟩, ⟨by repeat (first | (with_reducible first | exact HB.out | apply below_alloc | apply pw_below_drewN | apply below_drew1) | exact HB.out)⟩⟩
          · have c17b0 : (t105.toList == t106.toList) = false := beq_eq_false_iff_ne.mpr c17
            have c17b1 : (t105.toList != t106.toList) = true := bne_iff_ne.mpr c17
            rw [c17b1] at H
            clear c17
            cases t107 with
            | true =>
              rw [if_neg (by decide), if_pos rfl] at H
              replace H := Option.bind_eq_some_iff.mp H
              obtain ⟨t108, A200, H⟩ := H
              replace H : ((digest_Sum.f t106).bind fun t109 => (wageofficelaw24_MerkleBinding.j1 kj8 a0 a1 a2 a3 l4 a5 l6 t104 true (t108 != t109))) = some r := H
              have A20 := Aside0.mk A200
              clear A200
              replace H := Option.bind_eq_some_iff.mp H
              obtain ⟨t109, A210, H⟩ := H
              replace H : (wageofficelaw24_MerkleBinding.j1 kj8 a0 a1 a2 a3 l4 a5 l6 t104 true (t108 != t109)) = some r := H
              have A21 := Aside0.mk A210
              clear A210
              have H' := Aside0.mk H
              clear H
              go_wp2_with (first | (go_at_call 22; (with_reducible refine (digest_Sum.calls t105 t108 _ A20.out).mono ?_); rintro e w22 ⟨rfl, hb⟩; have n0_ := Aside0.mk (below_step (by repeat (first | (with_reducible first | exact HB.out | apply below_alloc | apply pw_below_drewN | apply below_drew1) | exact HB.out)) hb); clear HB; have HB := n0_; clear n0_; (try clear hb); (try clear hb2); (try clear hk); (try clear hi)) | (go_at_call 22; (with_reducible refine (digest_Sum.calls t106 t109 _ A21.out).mono ?_); rintro e w23 ⟨rfl, hb⟩; have n0_ := Aside0.mk (below_step (by repeat (first | (with_reducible first | exact HB.out | apply below_alloc | apply pw_below_drewN | apply below_drew1) | exact HB.out)) hb); clear HB; have HB := n0_; clear n0_; (try clear hb); (try clear hb2); (try clear hk); (try clear hi)))
              go_meet
              case rel => exact ⟨_, ((t108 != t109)), (by first | rfl | (simp; done) | (simp [*]; done)), H', ⟨by have := HJ8.out; first | omega | exact Nat.le_refl _⟩, ⟨by repeat (first | (with_reducible first | exact HB.out | apply below_alloc | apply pw_below_drewN | apply below_drew1) | exact HB.out)⟩⟩
            | false =>
              rw [if_pos (by decide)] at H
              have H' := Aside0.mk H
              clear H
              go_wp2
              go_meet
              case rel => exact ⟨_, (true), (by first | rfl | (simp; done) | (simp [*]; done)), H', ⟨by have := HJ8.out; first | omega | exact Nat.le_refl _⟩, ⟨by repeat (first | (with_reducible first | exact HB.out | apply below_alloc | apply pw_below_drewN | apply below_drew1) | exact HB.out)⟩⟩
        case rest =>
          clear HC16
          try clear c1
          try clear c2
          try clear p2
          try clear c4
          try clear c6
          try clear c7
          try clear c11
          try clear c11b0
          try clear c11b1
          try clear c12
          try clear c12b0
          try clear c12b1
          try clear c13
          try clear c13b0
          try clear c13b1
          try clear c14
          try clear c18
          try clear c18b0
          try clear c18b1
          try clear c18b2
          try clear c19
          try clear c20
          try clear p2
          obtain ⟨kq, x64_15, rfl, HA, HJ15, HB⟩ := hcut
          cases kq with
          | zero => exact absurd HA.out (by simp [wageofficelaw24_MerkleBinding.j1])
          | succ kj15 =>
            have H := HA.out
            clear HA
            simp only [wageofficelaw24_MerkleBinding.j1] at H
            by_cases c24 : x64_15 = true
            · subst c24
              have H1 : (some false) = some r := by rw [if_pos rfl] at H; exact H
              clear H
              have H := H1
              clear H1
              obtain rfl := Option.some.inj H
              go_wp2
              go_ret
              exact ⟨by first | rfl | (simp [errW_none, errW_some] <;> rfl) | (simp [*, errW_none, errW_some] <;> rfl), by repeat (first | (with_reducible first | exact HB.out | apply below_alloc | apply pw_below_drewN | apply below_drew1) | exact HB.out)⟩
            · replace c24 := Bool.eq_false_iff.mpr c24
              subst c24
              have H1 : ((merkle_Verify.f a0 a1 a2 a3 l4).bind fun t110 => (if t110 = true then ((merkle_Verify.f a0 a1 a2 a5 l6).bind fun t111 => (if t111 = true then (if t104 = true then (if a3.toList = a5.toList then ((wageofficeref24_Same.f kj15 l4 l6).bind fun t112 => (some (t107 == (!t112)))) else (some (t107 == true))) else (some false)) else (some t104))) else (some t104))) = some r := by rw [if_neg (show ¬ (false = true) by decide)] at H; exact H
              clear H
              have H := H1
              clear H1
              replace H := Option.bind_eq_some_iff.mp H
              obtain ⟨t110, A250, H⟩ := H
              replace H : (if t110 = true then ((merkle_Verify.f a0 a1 a2 a5 l6).bind fun t111 => (if t111 = true then (if t104 = true then (if a3.toList = a5.toList then ((wageofficeref24_Same.f kj15 l4 l6).bind fun t112 => (some (t107 == (!t112)))) else (some (t107 == true))) else (some false)) else (some t104))) else (some t104)) = some r := H
              have A25 := Aside0.mk A250
              clear A250
              by_cases c26 : t110 = true
              · subst c26
                have H1 : ((merkle_Verify.f a0 a1 a2 a5 l6).bind fun t111 => (if t111 = true then (if t104 = true then (if a3.toList = a5.toList then ((wageofficeref24_Same.f kj15 l4 l6).bind fun t112 => (some (t107 == (!t112)))) else (some (t107 == true))) else (some false)) else (some t104))) = some r := by rw [if_pos rfl] at H; exact H
                clear H
                have H := H1
                clear H1
                replace H := Option.bind_eq_some_iff.mp H
                obtain ⟨t111, A270, H⟩ := H
                replace H : (if t111 = true then (if t104 = true then (if a3.toList = a5.toList then ((wageofficeref24_Same.f kj15 l4 l6).bind fun t112 => (some (t107 == (!t112)))) else (some (t107 == true))) else (some false)) else (some t104)) = some r := H
                have A27 := Aside0.mk A270
                clear A270
                by_cases c28 : t111 = true
                · subst c28
                  have H1 : (if t104 = true then (if a3.toList = a5.toList then ((wageofficeref24_Same.f kj15 l4 l6).bind fun t112 => (some (t107 == (!t112)))) else (some (t107 == true))) else (some false)) = some r := by rw [if_pos rfl] at H; exact H
                  clear H
                  have H := H1
                  clear H1
                  by_cases c29 : t104 = true
                  · subst c29
                    have H1 : (if a3.toList = a5.toList then ((wageofficeref24_Same.f kj15 l4 l6).bind fun t112 => (some (t107 == (!t112)))) else (some (t107 == true))) = some r := by rw [if_pos rfl] at H; exact H
                    clear H
                    have H := H1
                    clear H1
                    by_cases c30 : a3.toList = a5.toList
                    · rw [if_pos c30] at H
                      have c30b0 : (a3.toList == a5.toList) = true := beq_iff_eq.mpr c30
                      have c30b1 : (a3.toList != a5.toList) = false := bne_eq_false_iff_eq.mpr c30
                      clear c30
                      replace H := Option.bind_eq_some_iff.mp H
                      obtain ⟨t112, A310, H⟩ := H
                      replace H : (some (t107 == (!t112))) = some r := H
                      have A31 := Aside0.mk A310
                      clear A310
                      obtain rfl := Option.some.inj H
                      go_wp2_with (first | ((with_reducible refine gate_callee (f := 18) rfl ?_); refine goesL_ (some 70) rfl rfl Try.func18 (by kernel_rfl) rfl #[.int .u64 a0, .int .i64 a1, .int .i64 a2, .string a3, .slice A4 l4.length c4] rfl (by (try simp only [List.map_toArray, List.map_cons, List.map_nil]); first | done | rfl | (simp only [List.length_drop, List.length_take]; rfl)) ?_; (with_reducible refine (merkle_Verify.calls a0 a1 a2 a3 _ _ l4 true _ ?side1 ?side2 A25.out).mono ?_); (case side1 => repeat (first | exact (Kd.C_below HR4.out HB.out) | (with_reducible refine Kd.C_alloc ?_ _) | (with_reducible refine Kd.C_drewN ?_ _) | (with_reducible refine Kd.C_drew ?_))); (case side2 => exact HC4.out); rintro e w32 ⟨rfl, hb⟩; refine ⟨_, rfl, ?_⟩; have n0_ := Aside0.mk (below_step (by repeat (first | (with_reducible first | exact HB.out | apply below_alloc | apply pw_below_drewN | apply below_drew1) | exact HB.out)) hb); clear HB; have HB := n0_; clear n0_; (try clear hb); (try clear hb2); (try clear hk); (try clear hi)) | (go_at_call 18; (with_reducible refine (merkle_Verify.calls a0 a1 a2 a5 _ _ l6 true _ ?side1 ?side2 A27.out).mono ?_); (case side1 => repeat (first | exact (Kd.C_below HR6.out HB.out) | (with_reducible refine Kd.C_alloc ?_ _) | (with_reducible refine Kd.C_drewN ?_ _) | (with_reducible refine Kd.C_drew ?_))); (case side2 => exact HC6.out); rintro e w33 ⟨rfl, hb⟩; have n0_ := Aside0.mk (below_step (by repeat (first | (with_reducible first | exact HB.out | apply below_alloc | apply pw_below_drewN | apply below_drew1) | exact HB.out)) hb); clear HB; have HB := n0_; clear n0_; (try clear hb); (try clear hb2); (try clear hk); (try clear hi)) | (go_at_call 17; (with_reducible refine (wageofficeref24_Same.calls kj15 _ _ l4 _ _ l6 t112 _ ?side1 ?side2 ?side3 ?side4 A31.out).mono ?_); (case side1 => repeat (first | exact (Kd.C_below HR4.out HB.out) | (with_reducible refine Kd.C_alloc ?_ _) | (with_reducible refine Kd.C_drewN ?_ _) | (with_reducible refine Kd.C_drew ?_))); (case side2 => exact HC4.out); (case side3 => repeat (first | exact (Kd.C_below HR6.out HB.out) | (with_reducible refine Kd.C_alloc ?_ _) | (with_reducible refine Kd.C_drewN ?_ _) | (with_reducible refine Kd.C_drew ?_))); (case side4 => exact HC6.out); rintro e w' ⟨rfl, ⟨nd, rfl⟩⟩))
                      go_ret
                      exact ⟨by first | rfl | (simp [errW_none, errW_some] <;> rfl) | (simp [*, errW_none, errW_some] <;> rfl), by repeat (first | (with_reducible first | exact HB.out | apply below_alloc | apply pw_below_drewN | apply below_drew1) | exact HB.out)⟩
                    · rw [if_neg c30] at H
                      have c30b0 : (a3.toList == a5.toList) = false := beq_eq_false_iff_ne.mpr c30
                      have c30b1 : (a3.toList != a5.toList) = true := bne_iff_ne.mpr c30
                      obtain rfl := Option.some.inj H
                      go_wp2_with (first | ((with_reducible refine gate_callee (f := 18) rfl ?_); refine goesL_ (some 70) rfl rfl Try.func18 (by kernel_rfl) rfl #[.int .u64 a0, .int .i64 a1, .int .i64 a2, .string a3, .slice A4 l4.length c4] rfl (by (try simp only [List.map_toArray, List.map_cons, List.map_nil]); first | done | rfl | (simp only [List.length_drop, List.length_take]; rfl)) ?_; (with_reducible refine (merkle_Verify.calls a0 a1 a2 a3 _ _ l4 true _ ?side1 ?side2 A25.out).mono ?_); (case side1 => repeat (first | exact (Kd.C_below HR4.out HB.out) | (with_reducible refine Kd.C_alloc ?_ _) | (with_reducible refine Kd.C_drewN ?_ _) | (with_reducible refine Kd.C_drew ?_))); (case side2 => exact HC4.out); rintro e w34 ⟨rfl, hb⟩; refine ⟨_, rfl, ?_⟩; have n0_ := Aside0.mk (below_step (by repeat (first | (with_reducible first | exact HB.out | apply below_alloc | apply pw_below_drewN | apply below_drew1) | exact HB.out)) hb); clear HB; have HB := n0_; clear n0_; (try clear hb); (try clear hb2); (try clear hk); (try clear hi)) | (go_at_call 18; (with_reducible refine (merkle_Verify.calls a0 a1 a2 a5 _ _ l6 true _ ?side1 ?side2 A27.out).mono ?_); (case side1 => repeat (first | exact (Kd.C_below HR6.out HB.out) | (with_reducible refine Kd.C_alloc ?_ _) | (with_reducible refine Kd.C_drewN ?_ _) | (with_reducible refine Kd.C_drew ?_))); (case side2 => exact HC6.out); rintro e w35 ⟨rfl, hb⟩; have n0_ := Aside0.mk (below_step (by repeat (first | (with_reducible first | exact HB.out | apply below_alloc | apply pw_below_drewN | apply below_drew1) | exact HB.out)) hb); clear HB; have HB := n0_; clear n0_; (try clear hb); (try clear hb2); (try clear hk); (try clear hi)))
                      go_ret
                      exact ⟨by first | rfl | (simp [errW_none, errW_some] <;> rfl) | (simp [*, errW_none, errW_some] <;> rfl), by repeat (first | (with_reducible first | exact HB.out | apply below_alloc | apply pw_below_drewN | apply below_drew1) | exact HB.out)⟩
                  · replace c29 := Bool.eq_false_iff.mpr c29
                    subst c29
                    have H1 : (some false) = some r := by rw [if_neg (show ¬ (false = true) by decide)] at H; exact H
                    clear H
                    have H := H1
                    clear H1
                    obtain rfl := Option.some.inj H
                    go_wp2_with (first | ((with_reducible refine gate_callee (f := 18) rfl ?_); refine goesL_ (some 70) rfl rfl Try.func18 (by kernel_rfl) rfl #[.int .u64 a0, .int .i64 a1, .int .i64 a2, .string a3, .slice A4 l4.length c4] rfl (by (try simp only [List.map_toArray, List.map_cons, List.map_nil]); first | done | rfl | (simp only [List.length_drop, List.length_take]; rfl)) ?_; (with_reducible refine (merkle_Verify.calls a0 a1 a2 a3 _ _ l4 true _ ?side1 ?side2 A25.out).mono ?_); (case side1 => repeat (first | exact (Kd.C_below HR4.out HB.out) | (with_reducible refine Kd.C_alloc ?_ _) | (with_reducible refine Kd.C_drewN ?_ _) | (with_reducible refine Kd.C_drew ?_))); (case side2 => exact HC4.out); rintro e w36 ⟨rfl, hb⟩; refine ⟨_, rfl, ?_⟩; have n0_ := Aside0.mk (below_step (by repeat (first | (with_reducible first | exact HB.out | apply below_alloc | apply pw_below_drewN | apply below_drew1) | exact HB.out)) hb); clear HB; have HB := n0_; clear n0_; (try clear hb); (try clear hb2); (try clear hk); (try clear hi)) | (go_at_call 18; (with_reducible refine (merkle_Verify.calls a0 a1 a2 a5 _ _ l6 true _ ?side1 ?side2 A27.out).mono ?_); (case side1 => repeat (first | exact (Kd.C_below HR6.out HB.out) | (with_reducible refine Kd.C_alloc ?_ _) | (with_reducible refine Kd.C_drewN ?_ _) | (with_reducible refine Kd.C_drew ?_))); (case side2 => exact HC6.out); rintro e w37 ⟨rfl, hb⟩; have n0_ := Aside0.mk (below_step (by repeat (first | (with_reducible first | exact HB.out | apply below_alloc | apply pw_below_drewN | apply below_drew1) | exact HB.out)) hb); clear HB; have HB := n0_; clear n0_; (try clear hb); (try clear hb2); (try clear hk); (try clear hi)))
                    go_ret
                    exact ⟨by first | rfl | (simp [errW_none, errW_some] <;> rfl) | (simp [*, errW_none, errW_some] <;> rfl), by repeat (first | (with_reducible first | exact HB.out | apply below_alloc | apply pw_below_drewN | apply below_drew1) | exact HB.out)⟩
                · replace c28 := Bool.eq_false_iff.mpr c28
                  subst c28
                  have H1 : (some t104) = some r := by rw [if_neg (show ¬ (false = true) by decide)] at H; exact H
                  clear H
                  have H := H1
                  clear H1
                  obtain rfl := Option.some.inj H
                  go_wp2_with (first | ((with_reducible refine gate_callee (f := 18) rfl ?_); refine goesL_ (some 70) rfl rfl Try.func18 (by kernel_rfl) rfl #[.int .u64 a0, .int .i64 a1, .int .i64 a2, .string a3, .slice A4 l4.length c4] rfl (by (try simp only [List.map_toArray, List.map_cons, List.map_nil]); first | done | rfl | (simp only [List.length_drop, List.length_take]; rfl)) ?_; (with_reducible refine (merkle_Verify.calls a0 a1 a2 a3 _ _ l4 true _ ?side1 ?side2 A25.out).mono ?_); (case side1 => repeat (first | exact (Kd.C_below HR4.out HB.out) | (with_reducible refine Kd.C_alloc ?_ _) | (with_reducible refine Kd.C_drewN ?_ _) | (with_reducible refine Kd.C_drew ?_))); (case side2 => exact HC4.out); rintro e w38 ⟨rfl, hb⟩; refine ⟨_, rfl, ?_⟩; have n0_ := Aside0.mk (below_step (by repeat (first | (with_reducible first | exact HB.out | apply below_alloc | apply pw_below_drewN | apply below_drew1) | exact HB.out)) hb); clear HB; have HB := n0_; clear n0_; (try clear hb); (try clear hb2); (try clear hk); (try clear hi)) | (go_at_call 18; (with_reducible refine (merkle_Verify.calls a0 a1 a2 a5 _ _ l6 false _ ?side1 ?side2 A27.out).mono ?_); (case side1 => repeat (first | exact (Kd.C_below HR6.out HB.out) | (with_reducible refine Kd.C_alloc ?_ _) | (with_reducible refine Kd.C_drewN ?_ _) | (with_reducible refine Kd.C_drew ?_))); (case side2 => exact HC6.out); rintro e w39 ⟨rfl, hb⟩; have n0_ := Aside0.mk (below_step (by repeat (first | (with_reducible first | exact HB.out | apply below_alloc | apply pw_below_drewN | apply below_drew1) | exact HB.out)) hb); clear HB; have HB := n0_; clear n0_; (try clear hb); (try clear hb2); (try clear hk); (try clear hi)))
                  go_ret
                  exact ⟨by first | rfl | (simp [errW_none, errW_some] <;> rfl) | (simp [*, errW_none, errW_some] <;> rfl), by repeat (first | (with_reducible first | exact HB.out | apply below_alloc | apply pw_below_drewN | apply below_drew1) | exact HB.out)⟩
              · replace c26 := Bool.eq_false_iff.mpr c26
                subst c26
                have H1 : (some t104) = some r := by rw [if_neg (show ¬ (false = true) by decide)] at H; exact H
                clear H
                have H := H1
                clear H1
                obtain rfl := Option.some.inj H
                go_wp2_with (first | ((with_reducible refine gate_callee (f := 18) rfl ?_); refine goesL_ (some 70) rfl rfl Try.func18 (by kernel_rfl) rfl #[.int .u64 a0, .int .i64 a1, .int .i64 a2, .string a3, .slice A4 l4.length c4] rfl (by (try simp only [List.map_toArray, List.map_cons, List.map_nil]); first | done | rfl | (simp only [List.length_drop, List.length_take]; rfl)) ?_; (with_reducible refine (merkle_Verify.calls a0 a1 a2 a3 _ _ l4 false _ ?side1 ?side2 A25.out).mono ?_); (case side1 => repeat (first | exact (Kd.C_below HR4.out HB.out) | (with_reducible refine Kd.C_alloc ?_ _) | (with_reducible refine Kd.C_drewN ?_ _) | (with_reducible refine Kd.C_drew ?_))); (case side2 => exact HC4.out); rintro e w40 ⟨rfl, hb⟩; refine ⟨_, rfl, ?_⟩; have n0_ := Aside0.mk (below_step (by repeat (first | (with_reducible first | exact HB.out | apply below_alloc | apply pw_below_drewN | apply below_drew1) | exact HB.out)) hb); clear HB; have HB := n0_; clear n0_; (try clear hb); (try clear hb2); (try clear hk); (try clear hi)))
                go_ret
                exact ⟨by first | rfl | (simp [errW_none, errW_some] <;> rfl) | (simp [*, errW_none, errW_some] <;> rfl), by repeat (first | (with_reducible first | exact HB.out | apply below_alloc | apply pw_below_drewN | apply below_drew1) | exact HB.out)⟩
end Go.Proofs.Ytcikhbamdbphaaa.PAll
