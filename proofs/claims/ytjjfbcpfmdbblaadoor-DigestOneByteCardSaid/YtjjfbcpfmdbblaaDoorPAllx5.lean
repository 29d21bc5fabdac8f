-- Written by myprint.py over the kit's print.py (a printed text of this session's own make).
import Derived.Test.YtjjfbcpfmdbblaaDoorPAllx0
import Derived.Test.YtjjfbcpfmdbblaaDoorPAllx1
import Derived.Test.YtjjfbcpfmdbblaaDoorPAllx2
namespace Go.Proofs.YtjjfbcpfmdbblaaDoor.PAll
open Go.Proofs.YtjjfbcpfmdbblaaDoor.Stub Go.Proofs.YtjjfbcpfmdbblaaDoor.DigD
open Go.RowKit Go.Proofs.YtjjfbcpfmdbblaaDoorW.PrintWords Go.Proofs.YtjjfbcpfmdbblaaDoorW.PrintLast Go.Proofs.YtjjfbcpfmdbblaaDoorW.PrintMore
attribute [local go_sem] max2_int min2_int max_two min_two max_three min_three max_four min_four   -- for this text's walks alone
set_option linter.unusedVariables false
set_option linter.unusedSimpArgs false

/-! ### wageofficelaw23_DigestSteps: function 8 -/
def wageofficelaw23_DigestSteps.l0 : Nat → ByteArray → Bool → Int → Int → Option (Bool)
  | 0, _, _, _, _ => none
  | k + 1, x0, x5, x7, x8 => if x8 < (x0.size : Int) then (if 0 ≤ x8 then (wageofficelaw23_DigestSteps.l0 k x0 x5 (Go.bits .xor .u64 (IntKind.u64.wrap ((Go.bits .xor .u64 x7 (IntKind.u64.wrap (bt x0 x8))) * 1099511628211)) ((IntKind.u64.wrap ((Go.bits .xor .u64 x7 (IntKind.u64.wrap (bt x0 x8))) * 1099511628211)) / 4294967296)) (wrap64 (x8 + 1))) else (none)) else (if x5 = true then ((digest_Sum.f x0).bind fun t171 => (some (t171 == (Go.bits .xor .u64 (IntKind.u64.wrap ((Go.bits .xor .u64 (IntKind.u64.wrap ((Go.bits .xor .u64 (Go.bits .xor .u64 x7 (IntKind.u64.wrap ((x0.size : Int)))) ((Go.bits .xor .u64 x7 (IntKind.u64.wrap ((x0.size : Int)))) / 2147483648)) * 13787848793156543929)) ((IntKind.u64.wrap ((Go.bits .xor .u64 (Go.bits .xor .u64 x7 (IntKind.u64.wrap ((x0.size : Int)))) ((Go.bits .xor .u64 x7 (IntKind.u64.wrap ((x0.size : Int)))) / 2147483648)) * 13787848793156543929)) / 134217728)) * 10723151780598845931)) ((IntKind.u64.wrap ((Go.bits .xor .u64 (IntKind.u64.wrap ((Go.bits .xor .u64 (Go.bits .xor .u64 x7 (IntKind.u64.wrap ((x0.size : Int)))) ((Go.bits .xor .u64 x7 (IntKind.u64.wrap ((x0.size : Int)))) / 2147483648)) * 13787848793156543929)) ((IntKind.u64.wrap ((Go.bits .xor .u64 (Go.bits .xor .u64 x7 (IntKind.u64.wrap ((x0.size : Int)))) ((Go.bits .xor .u64 x7 (IntKind.u64.wrap ((x0.size : Int)))) / 2147483648)) * 13787848793156543929)) / 134217728)) * 10723151780598845931)) / 8589934592))))) else (some false))
def wageofficelaw23_DigestSteps.f (k : Nat) (a0 : ByteArray) (a1 : Int) : Option (Bool) := (wageofficelaw23_head.f k).bind fun t168 => (if 0 ≤ (mn (a0.size : Int) 2000) then (if (mn (a0.size : Int) 2000) ≤ (a0.size : Int) then ((wageofficelaw23_pick.f a1 (wrap64 (((a0.extract 0 ((mn (a0.size : Int) 2000) : Int).toNat).size : Int) + 1))).bind fun t169 => (if 0 ≤ t169 then (if t169 ≤ ((a0.extract 0 ((mn (a0.size : Int) 2000) : Int).toNat).size : Int) then ((wageofficeref23_State.f k ((a0.extract 0 ((mn (a0.size : Int) 2000) : Int).toNat).extract 0 (t169 : Int).toNat)).bind fun t170 => (wageofficelaw23_DigestSteps.l0 k (a0.extract 0 ((mn (a0.size : Int) 2000) : Int).toNat) t168 t170 t169)) else (none)) else (none))) else (none)) else (none))
theorem wageofficelaw23_DigestSteps.mono_l : ∀ k, (∀ y0 y1 y2 y3, LeO (wageofficelaw23_DigestSteps.l0 k y0 y1 y2 y3) (wageofficelaw23_DigestSteps.l0 (k + 1) y0 y1 y2 y3))
  | 0 => fun _ _ _ _ r h => by simp [wageofficelaw23_DigestSteps.l0] at h
  | k + 1 => by
    have ih0 := wageofficelaw23_DigestSteps.mono_l k
    · intro y0 y1 y2 y3
      unfold wageofficelaw23_DigestSteps.l0
      repeat' first
      | (with_reducible exact ih0 _ _ _ _)
      | (with_reducible exact wageofficelaw23_head.mono _)
      | (with_reducible exact wageofficeref23_State.mono _ _)
      | (with_reducible exact LeO.refl _)
      | (with_reducible exact LeO.none _)
      | (with_reducible refine LeO.ite ?_ ?_)
      | (with_reducible refine LeO.bind ?_ (fun _ => ?_))
      | exact ih0 _ _ _ _
      | exact wageofficelaw23_head.mono _
      | exact wageofficeref23_State.mono _ _
      | exact LeO.none _
      | refine LeO.ite ?_ ?_
      | refine LeO.bind ?_ (fun _ => ?_)
theorem wageofficelaw23_DigestSteps.mono : ∀ a0 a1 k, LeO (wageofficelaw23_DigestSteps.f k a0 a1) (wageofficelaw23_DigestSteps.f (k + 1) a0 a1) := by
  intro a0 a1 k
  have ih0 := wageofficelaw23_DigestSteps.mono_l k
  unfold wageofficelaw23_DigestSteps.f
  repeat' first
      | (with_reducible exact ih0 _ _ _ _)
      | (with_reducible exact wageofficelaw23_head.mono _)
      | (with_reducible exact wageofficeref23_State.mono _ _)
      | (with_reducible exact LeO.refl _)
      | (with_reducible exact LeO.none _)
      | (with_reducible refine LeO.ite ?_ ?_)
      | (with_reducible refine LeO.bind ?_ (fun _ => ?_))
      | exact ih0 _ _ _ _
      | exact wageofficelaw23_head.mono _
      | exact wageofficeref23_State.mono _ _
      | exact LeO.none _
      | refine LeO.ite ?_ ?_
      | refine LeO.bind ?_ (fun _ => ?_)
set_option maxHeartbeats 8000000 in
set_option maxRecDepth 100000 in
theorem wageofficelaw23_DigestSteps.calls (k : Nat) (a0 : ByteArray) (a1 : Int) (r : Bool) (w : World) (h : wageofficelaw23_DigestSteps.f k a0 a1 = some r) (hTHex0 : TabHex w) :
    Calls Tryd.prog 8 #[.string a0, .int .i64 a1] w fun e w' => e = .returned (.bool r) ∧ Below w.heap.size w w' := by
  have hTHex := Aside0.mk hTHex0
  clear hTHex0
  have HB := Aside0.mk (Below.refl w.heap.size w)
  have H : ((wageofficelaw23_head.f k).bind fun t168 => (if 0 ≤ (mn (a0.size : Int) 2000) then (if (mn (a0.size : Int) 2000) ≤ (a0.size : Int) then ((wageofficelaw23_pick.f a1 (wrap64 (((a0.extract 0 ((mn (a0.size : Int) 2000) : Int).toNat).size : Int) + 1))).bind fun t169 => (if 0 ≤ t169 then (if t169 ≤ ((a0.extract 0 ((mn (a0.size : Int) 2000) : Int).toNat).size : Int) then ((wageofficeref23_State.f k ((a0.extract 0 ((mn (a0.size : Int) 2000) : Int).toNat).extract 0 (t169 : Int).toNat)).bind fun t170 => (wageofficelaw23_DigestSteps.l0 k (a0.extract 0 ((mn (a0.size : Int) 2000) : Int).toNat) t168 t170 t169)) else (none)) else (none))) else (none)) else (none))) = some r := h
  clear h
  replace H := Option.bind_eq_some_iff.mp H
  obtain ⟨t168, A30, H⟩ := H
  replace H : (if 0 ≤ (mn (a0.size : Int) 2000) then (if (mn (a0.size : Int) 2000) ≤ (a0.size : Int) then ((wageofficelaw23_pick.f a1 (wrap64 (((a0.extract 0 ((mn (a0.size : Int) 2000) : Int).toNat).size : Int) + 1))).bind fun t169 => (if 0 ≤ t169 then (if t169 ≤ ((a0.extract 0 ((mn (a0.size : Int) 2000) : Int).toNat).size : Int) then ((wageofficeref23_State.f k ((a0.extract 0 ((mn (a0.size : Int) 2000) : Int).toNat).extract 0 (t169 : Int).toNat)).bind fun t170 => (wageofficelaw23_DigestSteps.l0 k (a0.extract 0 ((mn (a0.size : Int) 2000) : Int).toNat) t168 t170 t169)) else (none)) else (none))) else (none)) else (none)) = some r := H
  have A3 := Aside0.mk A30
  clear A30
  obtain ⟨ji4, hji4⟩ : ∃ j_ : Int, (mn (a0.size : Int) 2000) = j_ := ⟨_, rfl⟩
  replace H : (if 0 ≤ (ji4) then (if (ji4) ≤ (a0.size : Int) then ((wageofficelaw23_pick.f a1 (wrap64 (((a0.extract 0 ((ji4) : Int).toNat).size : Int) + 1))).bind fun t169 => (if 0 ≤ t169 then (if t169 ≤ ((a0.extract 0 ((ji4) : Int).toNat).size : Int) then ((wageofficeref23_State.f k ((a0.extract 0 ((ji4) : Int).toNat).extract 0 (t169 : Int).toNat)).bind fun t170 => (wageofficelaw23_DigestSteps.l0 k (a0.extract 0 ((ji4) : Int).toNat) t168 t170 t169)) else (none)) else (none))) else (none)) else (none)) = some r := by first | (rw [hji4] at H; exact H) | (simp only [hji4] at H ⊢; exact H)
  (try rw [hji4] at A3)
  (try (have hji4h : ji4 ≤ 2000 := by (rw [← hji4]; unfold mn; (repeat' split) <;> omega)))
  (try (have hji4g : ji4 ≤ 64 := by omega))
  (try (have hji4l : 0 ≤ ji4 := by (rw [← hji4]; unfold mn; (repeat' split) <;> omega)))
  (try (have hji4m : 0 ≤ ji4 := by omega))
  have hji4_ : (if 2000 < (a0.size : Int) then 2000 else (a0.size : Int)) = ji4 := hji4
  by_cases c5 : 0 ≤ (ji4)
  · rw [if_pos c5] at H
    have c5b0 := eq_true c5
    have c5b1 : decide (0 ≤ (ji4)) = true := decide_eq_true c5
    clear c5
    by_cases c6 : (ji4) ≤ (a0.size : Int)
    · rw [if_pos c6] at H
      have c6b0 := eq_true c6
      have c6b1 : decide ((ji4) ≤ (a0.size : Int)) = true := decide_eq_true c6
      clear c6
      obtain ⟨js7, hjs7⟩ : ∃ s_ : ByteArray, (a0.extract 0 ((ji4) : Int).toNat) = s_ := ⟨_, rfl⟩
      replace H : ((wageofficelaw23_pick.f a1 (wrap64 ((js7.size : Int) + 1))).bind fun t169 => (if 0 ≤ t169 then (if t169 ≤ (js7.size : Int) then ((wageofficeref23_State.f k (js7.extract 0 (t169 : Int).toNat)).bind fun t170 => (wageofficelaw23_DigestSteps.l0 k js7 t168 t170 t169)) else (none)) else (none))) = some r := by first | (rw [hjs7] at H; exact H) | (simp only [hjs7] at H ⊢; exact H)
      (try rw [hjs7] at A3)
      replace H := Option.bind_eq_some_iff.mp H
      obtain ⟨t169, A80, H⟩ := H
      replace H : (if 0 ≤ t169 then (if t169 ≤ (js7.size : Int) then ((wageofficeref23_State.f k (js7.extract 0 (t169 : Int).toNat)).bind fun t170 => (wageofficelaw23_DigestSteps.l0 k js7 t168 t170 t169)) else (none)) else (none)) = some r := H
      have A8 := Aside0.mk A80
      clear A80
      by_cases c9 : 0 ≤ t169
      · rw [if_pos c9] at H
        have c9b0 := eq_true c9
        have c9b1 : decide (0 ≤ t169) = true := decide_eq_true c9
        clear c9
        by_cases c10 : t169 ≤ (js7.size : Int)
        · rw [if_pos c10] at H
          have c10b0 := eq_true c10
          have c10b1 : decide (t169 ≤ (js7.size : Int)) = true := decide_eq_true c10
          clear c10
          obtain ⟨js11, hjs11⟩ : ∃ s_ : ByteArray, (js7.extract 0 (t169 : Int).toNat) = s_ := ⟨_, rfl⟩
          replace H : ((wageofficeref23_State.f k js11).bind fun t170 => (wageofficelaw23_DigestSteps.l0 k js7 t168 t170 t169)) = some r := by first | (rw [hjs11] at H; exact H) | (simp only [hjs11] at H ⊢; exact H)
          (try rw [hjs11] at A3)
          (try rw [hjs11] at A8)
          replace H := Option.bind_eq_some_iff.mp H
          obtain ⟨t170, A120, H⟩ := H
          replace H : (wageofficelaw23_DigestSteps.l0 k js7 t168 t170 t169) = some r := H
          have A12 := Aside0.mk A120
          clear A120
          have H' := Aside0.mk H
          clear H
          go_enter Tryd.func8, Tryd.ntmps8
          go_wp2_with (first | ((with_reducible refine gate_callee (f := 9) rfl ?_); refine goesL_ (some 9) rfl rfl Tryd.func9 (by kernel_rfl) rfl #[] rfl (by (try simp only [List.map_toArray, List.map_cons, List.map_nil]); first | done | rfl | (simp only [List.length_drop, List.length_take]; rfl)) ?_; (with_reducible refine (wageofficelaw23_head.calls k  t168 _ A3.out (TabHex.below hTHex.out (by repeat (first | (with_reducible first | exact HB.out | exact Below.refl _ _ | apply below_alloc | apply pw_below_drewN | apply below_drew1 | apply below_drew) | exact HB.out)))).mono ?_); rintro e w13 ⟨rfl, hb⟩; refine ⟨_, rfl, ?_⟩; have n0_ := Aside0.mk (below_step (by repeat (first | (with_reducible first | exact HB.out | apply below_alloc | apply pw_below_drewN | apply below_drew1) | exact HB.out)) hb); clear HB; have HB := n0_; clear n0_; (try clear hb); (try clear hb2); (try clear hk); (try clear hi)) | ((with_reducible refine gate_callee (f := 18) rfl ?_); refine goesL_ (some 19) rfl rfl Tryd.func18 (by kernel_rfl) rfl #[.int .i64 a1, .int .i64 (wrap64 ((js7.size : Int) + 1))] rfl (by (try simp only [List.map_toArray, List.map_cons, List.map_nil]); first | done | rfl | (simp only [List.length_drop, List.length_take]; rfl)) ?_; (with_reducible refine (wageofficelaw23_pick.calls a1 (wrap64 ((js7.size : Int) + 1)) t169 _ A8.out).mono ?_); rintro e w' ⟨rfl, ⟨nd, rfl⟩⟩; refine ⟨_, rfl, ?_⟩) | ((with_reducible refine gate_callee (f := 19) rfl ?_); refine goesL_ (some 23) rfl rfl Tryd.func19 (by kernel_rfl) rfl #[.string js11] rfl (by (try simp only [List.map_toArray, List.map_cons, List.map_nil]); first | done | rfl | (simp only [List.length_drop, List.length_take]; rfl)) ?_; (with_reducible refine (wageofficeref23_State.calls k js11 t170 _ A12.out).mono ?_); rintro e w' ⟨rfl, ⟨nd, rfl⟩⟩; refine ⟨_, rfl, ?_⟩))
          go_loopg [7, 8] k (fun kq v7 v8 w' => ∃ (x7_1 : Int) (x8_1 : Int), v7 = .int .u64 x7_1 ∧ v8 = .int .i64 x8_1 ∧ Aside0 (wageofficelaw23_DigestSteps.l0 kq js7 t168 x7_1 x8_1 = some r) ∧ Aside0 (kq ≤ k) ∧ Aside0 (Below w.heap.size w w'))
          case atStart => exact ⟨(t170), (t169), (by first | rfl | (simp; done) | (simp [*]; done)), (by first | rfl | (simp; done) | (simp [*]; done)), H', ⟨Nat.le_refl _⟩, ⟨by repeat (first | (with_reducible first | exact HB.out | apply below_alloc | apply pw_below_drewN | apply below_drew1) | exact HB.out)⟩⟩
          case round =>
            clear H'
            try clear c1
            try clear p2
            try clear c5
            try clear c5b0
            try clear c5b1
            try clear c6
            try clear c6b0
            try clear c6b1
            try clear p6
            try clear c8
            try clear c9
            try clear c9b0
            try clear c9b1
            try clear c10
            try clear c10b0
            try clear c10b1
            obtain ⟨x7_1, x8_1, rfl, rfl, HA, HK1, HB⟩ := hrel
            cases gk with
            | zero => exact absurd HA.out (by simp [wageofficelaw23_DigestSteps.l0])
            | succ k1 =>
              have H := HA.out
              clear HA
              simp only [wageofficelaw23_DigestSteps.l0] at H
              by_cases c14 : x8_1 < (js7.size : Int)
              · rw [if_pos c14] at H
                have c14b0 : decide (x8_1 < (js7.size : Int)) = true := decide_eq_true c14
                clear c14
                by_cases c15 : 0 ≤ x8_1
                · rw [if_pos c15] at H
                  have c15b0 : decide (0 ≤ x8_1) = true := decide_eq_true c15
                  clear c15
                  have H' := Aside0.mk H
                  clear H
                  have p16 : 0 ≤ (x8_1 : Int) := of_decide_eq_true (by first | (with_reducible assumption) | assumption)
                  have q16 : x8_1 < (js7.size : Int) := of_decide_eq_true (by first | (with_reducible assumption) | assumption)
                  have hx16 := bt_at js7 x8_1
                  replace p16 := eq_true p16
                  replace q16 := eq_true q16
                  go_wp2
                  go_roundg k1
                  case measure => have := HK1.out; omega
                  case rel => exact ⟨(Go.bits .xor .u64 (IntKind.u64.wrap ((Go.bits .xor .u64 x7_1 (IntKind.u64.wrap (bt js7 x8_1))) * 1099511628211)) ((IntKind.u64.wrap ((Go.bits .xor .u64 x7_1 (IntKind.u64.wrap (bt js7 x8_1))) * 1099511628211)) / 4294967296)), (wrap64 (x8_1 + 1)), (by first | rfl | (simp; done) | (simp only [← hjs7] <;> (first | rfl | simp)) | (simp [*]; done)), (by first | rfl | (simp; done) | (simp [*]; done)), H', ⟨by have := HK1.out; omega⟩, ⟨by repeat (first | (with_reducible first | exact HB.out | apply below_alloc | apply pw_below_drewN | apply below_drew1) | exact HB.out)⟩⟩
                · rw [if_neg c15] at H
                  exact absurd H (by simp)
              · rw [if_neg c14] at H
                have c14b0 : decide (x8_1 < (js7.size : Int)) = false := decide_eq_false c14
                clear c14
                by_cases c17 : t168 = true
                · subst c17
                  have H1 : ((digest_Sum.f js7).bind fun t171 => (some (t171 == (Go.bits .xor .u64 (IntKind.u64.wrap ((Go.bits .xor .u64 (IntKind.u64.wrap ((Go.bits .xor .u64 (Go.bits .xor .u64 x7_1 (IntKind.u64.wrap ((js7.size : Int)))) ((Go.bits .xor .u64 x7_1 (IntKind.u64.wrap ((js7.size : Int)))) / 2147483648)) * 13787848793156543929)) ((IntKind.u64.wrap ((Go.bits .xor .u64 (Go.bits .xor .u64 x7_1 (IntKind.u64.wrap ((js7.size : Int)))) ((Go.bits .xor .u64 x7_1 (IntKind.u64.wrap ((js7.size : Int)))) / 2147483648)) * 13787848793156543929)) / 134217728)) * 10723151780598845931)) ((IntKind.u64.wrap ((Go.bits .xor .u64 (IntKind.u64.wrap ((Go.bits .xor .u64 (Go.bits .xor .u64 x7_1 (IntKind.u64.wrap ((js7.size : Int)))) ((Go.bits .xor .u64 x7_1 (IntKind.u64.wrap ((js7.size : Int)))) / 2147483648)) * 13787848793156543929)) ((IntKind.u64.wrap ((Go.bits .xor .u64 (Go.bits .xor .u64 x7_1 (IntKind.u64.wrap ((js7.size : Int)))) ((Go.bits .xor .u64 x7_1 (IntKind.u64.wrap ((js7.size : Int)))) / 2147483648)) * 13787848793156543929)) / 134217728)) * 10723151780598845931)) / 8589934592))))) = some r := by rw [if_pos rfl] at H; exact H
                  clear H
                  have H := H1
                  clear H1
                  replace H := Option.bind_eq_some_iff.mp H
                  obtain ⟨t171, A180, H⟩ := H
                  replace H : (some (t171 == (Go.bits .xor .u64 (IntKind.u64.wrap ((Go.bits .xor .u64 (IntKind.u64.wrap ((Go.bits .xor .u64 (Go.bits .xor .u64 x7_1 (IntKind.u64.wrap ((js7.size : Int)))) ((Go.bits .xor .u64 x7_1 (IntKind.u64.wrap ((js7.size : Int)))) / 2147483648)) * 13787848793156543929)) ((IntKind.u64.wrap ((Go.bits .xor .u64 (Go.bits .xor .u64 x7_1 (IntKind.u64.wrap ((js7.size : Int)))) ((Go.bits .xor .u64 x7_1 (IntKind.u64.wrap ((js7.size : Int)))) / 2147483648)) * 13787848793156543929)) / 134217728)) * 10723151780598845931)) ((IntKind.u64.wrap ((Go.bits .xor .u64 (IntKind.u64.wrap ((Go.bits .xor .u64 (Go.bits .xor .u64 x7_1 (IntKind.u64.wrap ((js7.size : Int)))) ((Go.bits .xor .u64 x7_1 (IntKind.u64.wrap ((js7.size : Int)))) / 2147483648)) * 13787848793156543929)) ((IntKind.u64.wrap ((Go.bits .xor .u64 (Go.bits .xor .u64 x7_1 (IntKind.u64.wrap ((js7.size : Int)))) ((Go.bits .xor .u64 x7_1 (IntKind.u64.wrap ((js7.size : Int)))) / 2147483648)) * 13787848793156543929)) / 134217728)) * 10723151780598845931)) / 8589934592)))) = some r := H
                  have A18 := Aside0.mk A180
                  clear A180
                  obtain rfl := Option.some.inj H
                  go_wp2_with (first | (go_at_call 12; (with_reducible refine (digest_Sum.calls js7 t171 _ A18.out).mono ?_); rintro e w19 ⟨rfl, hb⟩; have n0_ := Aside0.mk (below_step (by repeat (first | (with_reducible first | exact HB.out | apply below_alloc | apply pw_below_drewN | apply below_drew1) | exact HB.out)) hb); clear HB; have HB := n0_; clear n0_; (try clear hb); (try clear hb2); (try clear hk); (try clear hi)))
                  go_ret
                  exact ⟨by first | rfl | (simp [errW_none, errW_some] <;> rfl) | (simp only [← hji4, ← hjs7, ← hjs11]; first | rfl | (simp [errW_none, errW_some] <;> rfl)) | (simp [*, errW_none, errW_some] <;> rfl), by repeat (first | (with_reducible first | exact HB.out | apply below_alloc | apply pw_below_drewN | apply below_drew1) | exact HB.out)⟩
                · replace c17 := Bool.eq_false_iff.mpr c17
                  subst c17
                  have H1 : (some false) = some r := by rw [if_neg (show ¬ (false = true) by decide)] at H; exact H
                  clear H
                  have H := H1
                  clear H1
                  obtain rfl := Option.some.inj H
                  go_wp2
                  go_ret
                  exact ⟨by first | rfl | (simp [errW_none, errW_some] <;> rfl) | (simp only [← hji4, ← hjs7, ← hjs11]; first | rfl | (simp [errW_none, errW_some] <;> rfl)) | (simp [*, errW_none, errW_some] <;> rfl), by repeat (first | (with_reducible first | exact HB.out | apply below_alloc | apply pw_below_drewN | apply below_drew1) | exact HB.out)⟩
        · rw [if_neg c10] at H
          exact absurd H (by simp)
      · rw [if_neg c9] at H
        exact absurd H (by simp)
    · rw [if_neg c6] at H
      exact absurd H (by simp)
  · rw [if_neg c5] at H
    exact absurd H (by simp)

/-- THE ONE PURE STATEMENT of wageofficelaw23_DigestSteps: yours. -/
def wageofficelaw23_DigestSteps.Pure : Prop := ∀ (a0 : ByteArray) (a1 : Int), a0.size ≤ 140737488351232 → (Lit.int .i64 a1).wf = true → ∃ k, wageofficelaw23_DigestSteps.f k a0 a1 = some true
end Go.Proofs.YtjjfbcpfmdbblaaDoor.PAll
