-- Written by myprint.py over the kit's print.py (a printed text of this session's own make).
import Derived.Test.YtjjfbcpfmdbblaaDoorPAllx0
import Derived.Test.YtjjfbcpfmdbblaaDoorPAllx1
import Derived.Test.YtjjfbcpfmdbblaaDoorPAllx2
namespace Go.Proofs.YtjjfbcpfmdbblaaDoor.PAll
open Go.Proofs.YtjjfbcpfmdbblaaDoor.Stub Go.Proofs.YtjjfbcpfmdbblaaDoor.DigD
open Go.RowKit Go.Proofs.YtjjfbcpfmdbblaaDoorW.PrintWords Go.Proofs.YtjjfbcpfmdbblaaDoorW.PrintLast Go.Proofs.YtjjfbcpfmdbblaaDoorW.PrintMore
attribute [local go_sem] max2_int min2_int max_two min_two max_three min_three max_four min_four   -- for this text's walks alone
set_option linter.unusedVariables false
set_option linter.unusedSimpArgs false

/-! ### wageofficelaw23_DigestPairByte: function 5 -/
mutual
def wageofficelaw23_DigestPairByte.l0 : Nat → Int → Int → Bool → Int → ByteArray → Int → Option (Bool)
  | 0, _, _, _, _, _, _ => none
  | k + 1, x0, x1, x9, x12, x13, x14 => if x14 ≥ 0 then (if 0 ≤ (wrap64 (8 * x14)) then ((some (([(shr .u64 x0 (wrap64 (8 * x14))) % 256] : List Int) : List Int)).bind fun y144 => (if x13.size + (strOfNums y144).size ≤ 9223372036854775807 then (wageofficelaw23_DigestPairByte.l0 k x0 x1 x9 x12 (x13 ++ (strOfNums y144)) (wrap64 (x14 - 1))) else (none))) else (none)) else (wageofficelaw23_DigestPairByte.l1 k x0 x1 x9 x12 x13 7)
def wageofficelaw23_DigestPairByte.l1 : Nat → Int → Int → Bool → Int → ByteArray → Int → Option (Bool)
  | 0, _, _, _, _, _, _ => none
  | k + 1, x0, x1, x9, x12, x13, x15 => if x15 ≥ 0 then (if 0 ≤ (wrap64 (8 * x15)) then ((some (([(shr .u64 x1 (wrap64 (8 * x15))) % 256] : List Int) : List Int)).bind fun y147 => (if x13.size + (strOfNums y147).size ≤ 9223372036854775807 then (wageofficelaw23_DigestPairByte.l1 k x0 x1 x9 x12 (x13 ++ (strOfNums y147)) (wrap64 (x15 - 1))) else (none))) else (none)) else ((digest_Pair.f x0 x1).bind fun t150 => ((digest_Pair.f x12 x1).bind fun t151 => ((digest_Pair.f x1 x0).bind fun t152 => ((digest_Pair.f x1 x12).bind fun t153 => (if x9 = true then ((digest_Sum.f x13).bind fun t154 => (if t150 = t154 then (if ((t150 == t151) == (x0 == x12)) = true then (some ((t152 == t153) == (x0 == x12))) else (some false)) else (some false))) else (some false))))))
end
def wageofficelaw23_DigestPairByte.f (k : Nat) (a0 : Int) (a1 : Int) (a2 : Int) (a3 : Int) : Option (Bool) := (wageofficelaw23_head.f k).bind fun t142 => ((wageofficelaw23_pick.f a2 8).bind fun t143 => (if 0 ≤ (wrap64 (8 * t143)) then (wageofficelaw23_DigestPairByte.l0 k a0 a1 t142 (Go.bits .or .u64 (Go.bits .andNot .u64 a0 (shl .u64 255 (wrap64 (8 * t143)))) (shl .u64 (IntKind.u64.wrap (a3)) (wrap64 (8 * t143)))) (⟨#[1]⟩ : ByteArray) 7) else (none)))
theorem wageofficelaw23_DigestPairByte.mono_l : ∀ k, (∀ y0 y1 y2 y3 y4 y5, LeO (wageofficelaw23_DigestPairByte.l0 k y0 y1 y2 y3 y4 y5) (wageofficelaw23_DigestPairByte.l0 (k + 1) y0 y1 y2 y3 y4 y5)) ∧ (∀ y0 y1 y2 y3 y4 y5, LeO (wageofficelaw23_DigestPairByte.l1 k y0 y1 y2 y3 y4 y5) (wageofficelaw23_DigestPairByte.l1 (k + 1) y0 y1 y2 y3 y4 y5))
  | 0 => ⟨fun _ _ _ _ _ _ r h => by simp [wageofficelaw23_DigestPairByte.l0] at h, fun _ _ _ _ _ _ r h => by simp [wageofficelaw23_DigestPairByte.l1] at h⟩
  | k + 1 => by
    obtain ⟨ih0, ih1⟩ := wageofficelaw23_DigestPairByte.mono_l k
    refine ⟨?_, ?_⟩
    · intro y0 y1 y2 y3 y4 y5
      unfold wageofficelaw23_DigestPairByte.l0
      repeat' first
      | (with_reducible exact ih0 _ _ _ _ _ _)
      | (with_reducible exact ih1 _ _ _ _ _ _)
      | (with_reducible exact wageofficelaw23_head.mono _)
      | (with_reducible exact LeO.refl _)
      | (with_reducible exact LeO.none _)
      | (with_reducible refine LeO.ite ?_ ?_)
      | (with_reducible refine LeO.bind ?_ (fun _ => ?_))
      | exact ih0 _ _ _ _ _ _
      | exact ih1 _ _ _ _ _ _
      | exact wageofficelaw23_head.mono _
      | exact LeO.none _
      | refine LeO.ite ?_ ?_
      | refine LeO.bind ?_ (fun _ => ?_)
    · intro y0 y1 y2 y3 y4 y5
      unfold wageofficelaw23_DigestPairByte.l1
      repeat' first
      | (with_reducible exact ih0 _ _ _ _ _ _)
      | (with_reducible exact ih1 _ _ _ _ _ _)
      | (with_reducible exact wageofficelaw23_head.mono _)
      | (with_reducible exact LeO.refl _)
      | (with_reducible exact LeO.none _)
      | (with_reducible refine LeO.ite ?_ ?_)
      | (with_reducible refine LeO.bind ?_ (fun _ => ?_))
      | exact ih0 _ _ _ _ _ _
      | exact ih1 _ _ _ _ _ _
      | exact wageofficelaw23_head.mono _
      | exact LeO.none _
      | refine LeO.ite ?_ ?_
      | refine LeO.bind ?_ (fun _ => ?_)
theorem wageofficelaw23_DigestPairByte.mono : ∀ a0 a1 a2 a3 k, LeO (wageofficelaw23_DigestPairByte.f k a0 a1 a2 a3) (wageofficelaw23_DigestPairByte.f (k + 1) a0 a1 a2 a3) := by
  intro a0 a1 a2 a3 k
  obtain ⟨ih0, ih1⟩ := wageofficelaw23_DigestPairByte.mono_l k
  unfold wageofficelaw23_DigestPairByte.f
  repeat' first
      | (with_reducible exact ih0 _ _ _ _ _ _)
      | (with_reducible exact ih1 _ _ _ _ _ _)
      | (with_reducible exact wageofficelaw23_head.mono _)
      | (with_reducible exact LeO.refl _)
      | (with_reducible exact LeO.none _)
      | (with_reducible refine LeO.ite ?_ ?_)
      | (with_reducible refine LeO.bind ?_ (fun _ => ?_))
      | exact ih0 _ _ _ _ _ _
      | exact ih1 _ _ _ _ _ _
      | exact wageofficelaw23_head.mono _
      | exact LeO.none _
      | refine LeO.ite ?_ ?_
      | refine LeO.bind ?_ (fun _ => ?_)
set_option maxHeartbeats 8000000 in
set_option maxRecDepth 100000 in
theorem wageofficelaw23_DigestPairByte.calls (k : Nat) (a0 : Int) (a1 : Int) (a2 : Int) (a3 : Int) (r : Bool) (w : World) (h : wageofficelaw23_DigestPairByte.f k a0 a1 a2 a3 = some r) (hTHex0 : TabHex w) :
    Calls Tryd.prog 5 #[.int .u64 a0, .int .u64 a1, .int .i64 a2, .int .u8 a3] w fun e w' => e = .returned (.bool r) ∧ Below w.heap.size w w' := by
  have hTHex := Aside0.mk hTHex0
  clear hTHex0
  have HB := Aside0.mk (Below.refl w.heap.size w)
  have H : ((wageofficelaw23_head.f k).bind fun t142 => ((wageofficelaw23_pick.f a2 8).bind fun t143 => (if 0 ≤ (wrap64 (8 * t143)) then (wageofficelaw23_DigestPairByte.l0 k a0 a1 t142 (Go.bits .or .u64 (Go.bits .andNot .u64 a0 (shl .u64 255 (wrap64 (8 * t143)))) (shl .u64 (IntKind.u64.wrap (a3)) (wrap64 (8 * t143)))) (⟨#[1]⟩ : ByteArray) 7) else (none)))) = some r := h
  clear h
  replace H := Option.bind_eq_some_iff.mp H
  obtain ⟨t142, A50, H⟩ := H
  replace H : ((wageofficelaw23_pick.f a2 8).bind fun t143 => (if 0 ≤ (wrap64 (8 * t143)) then (wageofficelaw23_DigestPairByte.l0 k a0 a1 t142 (Go.bits .or .u64 (Go.bits .andNot .u64 a0 (shl .u64 255 (wrap64 (8 * t143)))) (shl .u64 (IntKind.u64.wrap (a3)) (wrap64 (8 * t143)))) (⟨#[1]⟩ : ByteArray) 7) else (none))) = some r := H
  have A5 := Aside0.mk A50
  clear A50
  replace H := Option.bind_eq_some_iff.mp H
  obtain ⟨t143, A60, H⟩ := H
  replace H : (if 0 ≤ (wrap64 (8 * t143)) then (wageofficelaw23_DigestPairByte.l0 k a0 a1 t142 (Go.bits .or .u64 (Go.bits .andNot .u64 a0 (shl .u64 255 (wrap64 (8 * t143)))) (shl .u64 (IntKind.u64.wrap (a3)) (wrap64 (8 * t143)))) (⟨#[1]⟩ : ByteArray) 7) else (none)) = some r := H
  have A6 := Aside0.mk A60
  clear A60
  obtain ⟨ji7, hji7⟩ : ∃ j_ : Int, (wrap64 (8 * t143)) = j_ := ⟨_, rfl⟩
  replace H : (if 0 ≤ (ji7) then (wageofficelaw23_DigestPairByte.l0 k a0 a1 t142 (Go.bits .or .u64 (Go.bits .andNot .u64 a0 (shl .u64 255 (ji7))) (shl .u64 (IntKind.u64.wrap (a3)) (ji7))) (⟨#[1]⟩ : ByteArray) 7) else (none)) = some r := by first | (rw [hji7] at H; exact H) | (simp only [hji7] at H ⊢; exact H)
  (try rw [hji7] at A5)
  (try rw [hji7] at A6)
  have hji7w : (IntKind.i64.wrap (8 * t143)) = ji7 := (i64_w _).trans hji7
  by_cases c8 : 0 ≤ (ji7)
  · rw [if_pos c8] at H
    have c8b0 := eq_true c8
    have c8b1 : decide (0 ≤ (ji7)) = true := decide_eq_true c8
    clear c8
    obtain ⟨ji9, hji9⟩ : ∃ j_ : Int, (shl .u64 255 (ji7)) = j_ := ⟨_, rfl⟩
    replace H : (wageofficelaw23_DigestPairByte.l0 k a0 a1 t142 (Go.bits .or .u64 (Go.bits .andNot .u64 a0 (ji9)) (shl .u64 (IntKind.u64.wrap (a3)) (ji7))) (⟨#[1]⟩ : ByteArray) 7) = some r := by first | (rw [hji9] at H; exact H) | (simp only [hji9] at H ⊢; exact H)
    (try rw [hji9] at A5)
    (try rw [hji9] at A6)
    have hji9_ : (IntKind.u64.wrap (255 * 2 ^ min (ji7).toNat 64)) = ji9 := hji9
    have hji9z : (ji7) ≤ 64 → (IntKind.u64.wrap (255 * 2 ^ (ji7).toNat)) = ji9 := shl_small hji9
    have c10b0 := eq_true (of_decide_eq_true (by first | (with_reducible assumption) | assumption) : 0 ≤ (ji7))
    obtain ⟨ji11, hji11⟩ : ∃ j_ : Int, (shl .u64 (IntKind.u64.wrap (a3)) (ji7)) = j_ := ⟨_, rfl⟩
    replace H : (wageofficelaw23_DigestPairByte.l0 k a0 a1 t142 (Go.bits .or .u64 (Go.bits .andNot .u64 a0 (ji9)) (ji11)) (⟨#[1]⟩ : ByteArray) 7) = some r := by first | (rw [hji11] at H; exact H) | (simp only [hji11] at H ⊢; exact H)
    (try rw [hji11] at A5)
    (try rw [hji11] at A6)
    have hji11_ : (IntKind.u64.wrap ((IntKind.u64.wrap (a3)) * 2 ^ min (ji7).toNat 64)) = ji11 := hji11
    have hji11z : (ji7) ≤ 64 → (IntKind.u64.wrap ((IntKind.u64.wrap (a3)) * 2 ^ (ji7).toNat)) = ji11 := shl_small hji11
    have H' := Aside0.mk H
    clear H
    go_enter Tryd.func5, Tryd.ntmps5
    go_wp2_with (first | ((with_reducible refine gate_callee (f := 9) rfl ?_); refine goesL_ (some 20) rfl rfl Tryd.func9 (by kernel_rfl) rfl #[] rfl (by (try simp only [List.map_toArray, List.map_cons, List.map_nil]); first | done | rfl | (simp only [List.length_drop, List.length_take]; rfl)) ?_; (with_reducible refine (wageofficelaw23_head.calls k  t142 _ A5.out (TabHex.below hTHex.out (by repeat (first | (with_reducible first | exact HB.out | exact Below.refl _ _ | apply below_alloc | apply pw_below_drewN | apply below_drew1 | apply below_drew) | exact HB.out)))).mono ?_); rintro e w12 ⟨rfl, hb⟩; refine ⟨_, rfl, ?_⟩; have n0_ := Aside0.mk (below_step (by repeat (first | (with_reducible first | exact HB.out | apply below_alloc | apply pw_below_drewN | apply below_drew1) | exact HB.out)) hb); clear HB; have HB := n0_; clear n0_; (try clear hb); (try clear hb2); (try clear hk); (try clear hi)) | ((with_reducible refine gate_callee (f := 18) rfl ?_); refine goesL_ (some 22) rfl rfl Tryd.func18 (by kernel_rfl) rfl #[.int .i64 a2, .int .i64 8] rfl (by (try simp only [List.map_toArray, List.map_cons, List.map_nil]); first | done | rfl | (simp only [List.length_drop, List.length_take]; rfl)) ?_; (with_reducible refine (wageofficelaw23_pick.calls a2 8 t143 _ A6.out).mono ?_); rintro e w' ⟨rfl, ⟨nd, rfl⟩⟩; refine ⟨_, rfl, ?_⟩))
    go_loopg [13, 14] k (fun kq v13 v14 w' => ∃ (x13_1 : ByteArray) (x14_1 : Int), v13 = .string x13_1 ∧ v14 = .int .i64 x14_1 ∧ Aside0 (wageofficelaw23_DigestPairByte.l0 kq a0 a1 t142 (Go.bits .or .u64 (Go.bits .andNot .u64 a0 (ji9)) (ji11)) x13_1 x14_1 = some r) ∧ Aside0 (kq ≤ k) ∧ Aside0 (Below w.heap.size w w'))
    case atStart => exact ⟨((⟨#[1]⟩ : ByteArray)), (7), (by first | rfl | (simp; done) | (simp [*]; done)), (by first | rfl | (simp; done) | (simp [*]; done)), H', ⟨Nat.le_refl _⟩, ⟨by repeat (first | (with_reducible first | exact HB.out | apply below_alloc | apply pw_below_drewN | apply below_drew1) | exact HB.out)⟩⟩
    case round =>
      clear H'
      try clear c1
      try clear p2
      try clear c5
      try clear p6
      try clear c8
      try clear c8b0
      try clear c8b1
      try clear c9
      try clear c10
      try clear c10b0
      obtain ⟨x13_1, x14_1, rfl, rfl, HA, HK1, HB⟩ := hrel
      cases gk with
      | zero => exact absurd HA.out (by simp [wageofficelaw23_DigestPairByte.l0])
      | succ k1 =>
        have H := HA.out
        clear HA
        simp only [wageofficelaw23_DigestPairByte.l0] at H
        by_cases c13 : x14_1 ≥ 0
        · rw [if_pos c13] at H
          have c13b0 : decide (0 ≤ x14_1) = true := decide_eq_true c13
          clear c13
          obtain ⟨ji14, hji14⟩ : ∃ j_ : Int, (wrap64 (8 * x14_1)) = j_ := ⟨_, rfl⟩
          replace H : (if 0 ≤ (ji14) then ((some (([(shr .u64 a0 (ji14)) % 256] : List Int) : List Int)).bind fun y144 => (if x13_1.size + (strOfNums y144).size ≤ 9223372036854775807 then (wageofficelaw23_DigestPairByte.l0 k1 a0 a1 t142 (Go.bits .or .u64 (Go.bits .andNot .u64 a0 (ji9)) (ji11)) (x13_1 ++ (strOfNums y144)) (wrap64 (x14_1 - 1))) else (none))) else (none)) = some r := by first | (rw [hji14] at H; exact H) | (simp only [hji14] at H ⊢; exact H)
          have hji14w : (IntKind.i64.wrap (8 * x14_1)) = ji14 := (i64_w _).trans hji14
          by_cases c15 : 0 ≤ (ji14)
          · rw [if_pos c15] at H
            have c15b0 := eq_true c15
            have c15b1 : decide (0 ≤ (ji14)) = true := decide_eq_true c15
            clear c15
            obtain ⟨ji16, hji16⟩ : ∃ j_ : Int, (shr .u64 a0 (ji14)) = j_ := ⟨_, rfl⟩
            replace H : ((some (([(ji16) % 256] : List Int) : List Int)).bind fun y144 => (if x13_1.size + (strOfNums y144).size ≤ 9223372036854775807 then (wageofficelaw23_DigestPairByte.l0 k1 a0 a1 t142 (Go.bits .or .u64 (Go.bits .andNot .u64 a0 (ji9)) (ji11)) (x13_1 ++ (strOfNums y144)) (wrap64 (x14_1 - 1))) else (none))) = some r := by first | (rw [hji16] at H; exact H) | (simp only [hji16] at H ⊢; exact H)
            have hji16_ : (a0 / 2 ^ min (ji14).toNat 64) = ji16 := hji16
            have hji16z : (ji14) ≤ 64 → (a0 / 2 ^ (ji14).toNat) = ji16 := shr_small hji16
            obtain ⟨y144, hy144⟩ : ∃ y_ : List Int, y_ = (([(ji16) % 256] : List Int)) := ⟨_, rfl⟩
            replace H : (if x13_1.size + (strOfNums y144).size ≤ 9223372036854775807 then (wageofficelaw23_DigestPairByte.l0 k1 a0 a1 t142 (Go.bits .or .u64 (Go.bits .andNot .u64 a0 (ji9)) (ji11)) (x13_1 ++ (strOfNums y144)) (wrap64 (x14_1 - 1))) else (none)) = some r := by first | (rw [hy144]; with_reducible exact H) | (have H2_ := (Option.bind_some _ _).symm.trans H; rw [hy144]; with_reducible exact H2_) | (have H2_ := (Option.bind_some _ _).symm.trans H; with_reducible exact H2_) | with_reducible exact H | (rw [hy144]; exact H) | exact H
            have Ny144 := Aside0.mk hy144
            clear hy144
            by_cases c17 : x13_1.size + (strOfNums y144).size ≤ 9223372036854775807
            · rw [if_pos c17] at H
              have c17b0 := eq_true c17
              have c17b1 : decide (x13_1.size + (strOfNums y144).size ≤ 9223372036854775807) = true := decide_eq_true c17
              try have c17b2 : (9223372036854775807 < x13_1.size + (strOfNums y144).size) = False := eq_false (Nat.not_lt.2 c17)
              have H' := Aside0.mk H
              clear H
              go_wp2_with (first | ((with_reducible refine gate_dst (N := 45) rfl ?_); refine Kd.R_lit (Kd.int .u8) _ 5 ?hg (N := 45) ?hd (xs := ([(ji16) % 256] : List Int)) (inner := [.int .u8 ((ji16) % 256)]) (ok := fun _ => True) (okp := fun _ => True) ?hr ?hp (fun _ hk => hk) trivial (Below.refl _ _) (Nat.le_refl _) (by simp) ?_; (case hd => rfl); (case hg => rfl); (case hr => first | (go_simp; done) | (go_simp; rfl)); (case hp => exact (Reps.one (show Kd.M (Kd.int .u8) _ _ _ ((ji16) % 256) [.int .u8 ((ji16) % 256)] from rfl) (Reps.none _ _))); intro v145 w18 ho19 hb hg_ hnew_; clear hg_ hnew_; (first | rw [← Ny144.out] at ho19 | (simp only [Int.reduceToNat] at ho19; rw [← Ny144.out] at ho19)); have n0_ := Aside0.mk (Kd.R_lower ho19 (below_size (by repeat (first | (with_reducible first | exact HB.out | apply below_alloc | apply pw_below_drewN | apply below_drew1) | exact HB.out)))); have n1_ := Aside0.mk (below_step (by repeat (first | (with_reducible first | exact HB.out | apply below_alloc | apply pw_below_drewN | apply below_drew1) | exact HB.out)) hb); clear HB; have HO146 := n0_; have HB := n1_; clear n0_ n1_; clear hb ho19; have hcv20 := own_string (P := Tryd.prog) Tryd.underlying33 Tryd.underlying5 Tryd.underlying9 (Kd.own_of_R HO146.out)))
              go_roundg k1
              case measure => have := HK1.out; omega
              case rel => exact ⟨(x13_1 ++ (strOfNums y144)), (wrap64 (x14_1 - 1)), (by first | rfl | (simp; done) | (simp [*]; done)), (by first | rfl | (simp; done) | (simp [*]; done)), H', ⟨by have := HK1.out; omega⟩, ⟨by repeat (first | (with_reducible first | exact HB.out | apply below_alloc | apply pw_below_drewN | apply below_drew1) | exact HB.out)⟩⟩
            · rw [if_neg c17] at H
              exact absurd H (by simp)
          · rw [if_neg c15] at H
            exact absurd H (by simp)
        · rw [if_neg c13] at H
          have c13b0 : decide (0 ≤ x14_1) = false := decide_eq_false c13
          clear c13
          have H' := Aside0.mk H
          clear H
          go_wp2
          go_loopg [13, 15] k1 (fun kq v13 v15 w' => ∃ (x13_2 : ByteArray) (x15_2 : Int), v13 = .string x13_2 ∧ v15 = .int .i64 x15_2 ∧ Aside0 (wageofficelaw23_DigestPairByte.l1 kq a0 a1 t142 (Go.bits .or .u64 (Go.bits .andNot .u64 a0 (ji9)) (ji11)) x13_2 x15_2 = some r) ∧ Aside0 (kq ≤ k1) ∧ Aside0 (Below w.heap.size w w'))
          case atStart => exact ⟨(x13_1), (7), (by first | rfl | (simp; done) | (simp [*]; done)), (by first | rfl | (simp; done) | (simp [*]; done)), H', ⟨Nat.le_refl _⟩, ⟨by repeat (first | (with_reducible first | exact HB.out | apply below_alloc | apply pw_below_drewN | apply below_drew1) | exact HB.out)⟩⟩
          case round =>
            clear H'
            try clear c1
            try clear p2
            try clear hcv2
            try clear c5
            try clear p6
            try clear c8
            try clear c8b0
            try clear c8b1
            try clear c9
            try clear c10
            try clear c10b0
            try clear c13
            try clear c13b0
            try clear c15
            try clear c15b0
            try clear c15b1
            try clear c17
            try clear c17b0
            try clear c17b1
            try clear c17b2
            try clear c18
            try clear hcv20
            try clear p2
            try clear p6
            obtain ⟨x13_2, x15_2, rfl, rfl, HA, HK2, HB⟩ := hrel
            cases gk with
            | zero => exact absurd HA.out (by simp [wageofficelaw23_DigestPairByte.l1])
            | succ k2 =>
              have H := HA.out
              clear HA
              simp only [wageofficelaw23_DigestPairByte.l1] at H
              by_cases c21 : x15_2 ≥ 0
              · rw [if_pos c21] at H
                have c21b0 : decide (0 ≤ x15_2) = true := decide_eq_true c21
                clear c21
                obtain ⟨ji22, hji22⟩ : ∃ j_ : Int, (wrap64 (8 * x15_2)) = j_ := ⟨_, rfl⟩
                replace H : (if 0 ≤ (ji22) then ((some (([(shr .u64 a1 (ji22)) % 256] : List Int) : List Int)).bind fun y147 => (if x13_2.size + (strOfNums y147).size ≤ 9223372036854775807 then (wageofficelaw23_DigestPairByte.l1 k2 a0 a1 t142 (Go.bits .or .u64 (Go.bits .andNot .u64 a0 (ji9)) (ji11)) (x13_2 ++ (strOfNums y147)) (wrap64 (x15_2 - 1))) else (none))) else (none)) = some r := by first | (rw [hji22] at H; exact H) | (simp only [hji22] at H ⊢; exact H)
                have hji22w : (IntKind.i64.wrap (8 * x15_2)) = ji22 := (i64_w _).trans hji22
                by_cases c23 : 0 ≤ (ji22)
                · rw [if_pos c23] at H
                  have c23b0 := eq_true c23
                  have c23b1 : decide (0 ≤ (ji22)) = true := decide_eq_true c23
                  clear c23
                  obtain ⟨ji24, hji24⟩ : ∃ j_ : Int, (shr .u64 a1 (ji22)) = j_ := ⟨_, rfl⟩
                  replace H : ((some (([(ji24) % 256] : List Int) : List Int)).bind fun y147 => (if x13_2.size + (strOfNums y147).size ≤ 9223372036854775807 then (wageofficelaw23_DigestPairByte.l1 k2 a0 a1 t142 (Go.bits .or .u64 (Go.bits .andNot .u64 a0 (ji9)) (ji11)) (x13_2 ++ (strOfNums y147)) (wrap64 (x15_2 - 1))) else (none))) = some r := by first | (rw [hji24] at H; exact H) | (simp only [hji24] at H ⊢; exact H)
                  have hji24_ : (a1 / 2 ^ min (ji22).toNat 64) = ji24 := hji24
                  have hji24z : (ji22) ≤ 64 → (a1 / 2 ^ (ji22).toNat) = ji24 := shr_small hji24
                  obtain ⟨y147, hy147⟩ : ∃ y_ : List Int, y_ = (([(ji24) % 256] : List Int)) := ⟨_, rfl⟩
                  replace H : (if x13_2.size + (strOfNums y147).size ≤ 9223372036854775807 then (wageofficelaw23_DigestPairByte.l1 k2 a0 a1 t142 (Go.bits .or .u64 (Go.bits .andNot .u64 a0 (ji9)) (ji11)) (x13_2 ++ (strOfNums y147)) (wrap64 (x15_2 - 1))) else (none)) = some r := by first | (rw [hy147]; with_reducible exact H) | (have H2_ := (Option.bind_some _ _).symm.trans H; rw [hy147]; with_reducible exact H2_) | (have H2_ := (Option.bind_some _ _).symm.trans H; with_reducible exact H2_) | with_reducible exact H | (rw [hy147]; exact H) | exact H
                  have Ny147 := Aside0.mk hy147
                  clear hy147
                  by_cases c25 : x13_2.size + (strOfNums y147).size ≤ 9223372036854775807
                  · rw [if_pos c25] at H
                    have c25b0 := eq_true c25
                    have c25b1 : decide (x13_2.size + (strOfNums y147).size ≤ 9223372036854775807) = true := decide_eq_true c25
                    try have c25b2 : (9223372036854775807 < x13_2.size + (strOfNums y147).size) = False := eq_false (Nat.not_lt.2 c25)
                    have H' := Aside0.mk H
                    clear H
                    go_wp2_with (first | ((with_reducible refine gate_dst (N := 58) rfl ?_); refine Kd.R_lit (Kd.int .u8) _ 5 ?hg (N := 58) ?hd (xs := ([(ji24) % 256] : List Int)) (inner := [.int .u8 ((ji24) % 256)]) (ok := fun _ => True) (okp := fun _ => True) ?hr ?hp (fun _ hk => hk) trivial (Below.refl _ _) (Nat.le_refl _) (by simp) ?_; (case hd => rfl); (case hg => rfl); (case hr => first | (go_simp; done) | (go_simp; rfl)); (case hp => exact (Reps.one (show Kd.M (Kd.int .u8) _ _ _ ((ji24) % 256) [.int .u8 ((ji24) % 256)] from rfl) (Reps.none _ _))); intro v148 w26 ho27 hb hg_ hnew_; clear hg_ hnew_; (first | rw [← Ny147.out] at ho27 | (simp only [Int.reduceToNat] at ho27; rw [← Ny147.out] at ho27)); have n0_ := Aside0.mk (Kd.R_lower ho27 (below_size (by repeat (first | (with_reducible first | exact HB.out | apply below_alloc | apply pw_below_drewN | apply below_drew1) | exact HB.out)))); have n1_ := Aside0.mk (below_step (by repeat (first | (with_reducible first | exact HB.out | apply below_alloc | apply pw_below_drewN | apply below_drew1) | exact HB.out)) hb); clear HB; have HO149 := n0_; have HB := n1_; clear n0_ n1_; clear hb ho27; have hcv28 := own_string (P := Tryd.prog) Tryd.underlying33 Tryd.underlying5 Tryd.underlying9 (Kd.own_of_R HO149.out)))
                    go_roundg k2
                    case measure => have := HK1.out; have := HK2.out; omega
                    case rel => exact ⟨(x13_2 ++ (strOfNums y147)), (wrap64 (x15_2 - 1)), (by first | rfl | (simp; done) | (simp [*]; done)), (by first | rfl | (simp; done) | (simp [*]; done)), H', ⟨by have := HK1.out; have := HK2.out; omega⟩, ⟨by repeat (first | (with_reducible first | exact HB.out | apply below_alloc | apply pw_below_drewN | apply below_drew1) | exact HB.out)⟩⟩
                  · rw [if_neg c25] at H
                    exact absurd H (by simp)
                · rw [if_neg c23] at H
                  exact absurd H (by simp)
              · rw [if_neg c21] at H
                have c21b0 : decide (0 ≤ x15_2) = false := decide_eq_false c21
                clear c21
                replace H := Option.bind_eq_some_iff.mp H
                obtain ⟨t150, A290, H⟩ := H
                replace H : ((digest_Pair.f (Go.bits .or .u64 (Go.bits .andNot .u64 a0 (ji9)) (ji11)) a1).bind fun t151 => ((digest_Pair.f a1 a0).bind fun t152 => ((digest_Pair.f a1 (Go.bits .or .u64 (Go.bits .andNot .u64 a0 (ji9)) (ji11))).bind fun t153 => (if t142 = true then ((digest_Sum.f x13_2).bind fun t154 => (if t150 = t154 then (if ((t150 == t151) == (a0 == (Go.bits .or .u64 (Go.bits .andNot .u64 a0 (ji9)) (ji11)))) = true then (some ((t152 == t153) == (a0 == (Go.bits .or .u64 (Go.bits .andNot .u64 a0 (ji9)) (ji11))))) else (some false)) else (some false))) else (some false))))) = some r := H
                have A29 := Aside0.mk A290
                clear A290
                replace H := Option.bind_eq_some_iff.mp H
                obtain ⟨t151, A300, H⟩ := H
                replace H : ((digest_Pair.f a1 a0).bind fun t152 => ((digest_Pair.f a1 (Go.bits .or .u64 (Go.bits .andNot .u64 a0 (ji9)) (ji11))).bind fun t153 => (if t142 = true then ((digest_Sum.f x13_2).bind fun t154 => (if t150 = t154 then (if ((t150 == t151) == (a0 == (Go.bits .or .u64 (Go.bits .andNot .u64 a0 (ji9)) (ji11)))) = true then (some ((t152 == t153) == (a0 == (Go.bits .or .u64 (Go.bits .andNot .u64 a0 (ji9)) (ji11))))) else (some false)) else (some false))) else (some false)))) = some r := H
                have A30 := Aside0.mk A300
                clear A300
                replace H := Option.bind_eq_some_iff.mp H
                obtain ⟨t152, A310, H⟩ := H
                replace H : ((digest_Pair.f a1 (Go.bits .or .u64 (Go.bits .andNot .u64 a0 (ji9)) (ji11))).bind fun t153 => (if t142 = true then ((digest_Sum.f x13_2).bind fun t154 => (if t150 = t154 then (if ((t150 == t151) == (a0 == (Go.bits .or .u64 (Go.bits .andNot .u64 a0 (ji9)) (ji11)))) = true then (some ((t152 == t153) == (a0 == (Go.bits .or .u64 (Go.bits .andNot .u64 a0 (ji9)) (ji11))))) else (some false)) else (some false))) else (some false))) = some r := H
                have A31 := Aside0.mk A310
                clear A310
                replace H := Option.bind_eq_some_iff.mp H
                obtain ⟨t153, A320, H⟩ := H
                replace H : (if t142 = true then ((digest_Sum.f x13_2).bind fun t154 => (if t150 = t154 then (if ((t150 == t151) == (a0 == (Go.bits .or .u64 (Go.bits .andNot .u64 a0 (ji9)) (ji11)))) = true then (some ((t152 == t153) == (a0 == (Go.bits .or .u64 (Go.bits .andNot .u64 a0 (ji9)) (ji11))))) else (some false)) else (some false))) else (some false)) = some r := H
                have A32 := Aside0.mk A320
                clear A320
                by_cases c33 : t142 = true
                · subst c33
                  have H1 : ((digest_Sum.f x13_2).bind fun t154 => (if t150 = t154 then (if ((t150 == t151) == (a0 == (Go.bits .or .u64 (Go.bits .andNot .u64 a0 (ji9)) (ji11)))) = true then (some ((t152 == t153) == (a0 == (Go.bits .or .u64 (Go.bits .andNot .u64 a0 (ji9)) (ji11))))) else (some false)) else (some false))) = some r := by rw [if_pos rfl] at H; exact H
                  clear H
                  have H := H1
                  clear H1
                  replace H := Option.bind_eq_some_iff.mp H
                  obtain ⟨t154, A340, H⟩ := H
                  replace H : (if t150 = t154 then (if ((t150 == t151) == (a0 == (Go.bits .or .u64 (Go.bits .andNot .u64 a0 (ji9)) (ji11)))) = true then (some ((t152 == t153) == (a0 == (Go.bits .or .u64 (Go.bits .andNot .u64 a0 (ji9)) (ji11))))) else (some false)) else (some false)) = some r := H
                  have A34 := Aside0.mk A340
                  clear A340
                  by_cases c35 : t150 = t154
                  · rw [if_pos c35] at H
                    have c35b0 : (t150 == t154) = true := beq_iff_eq.mpr c35
                    have c35b1 : (t150 != t154) = false := bne_eq_false_iff_eq.mpr c35
                    clear c35
                    by_cases c36 : ((t150 == t151) == (a0 == (Go.bits .or .u64 (Go.bits .andNot .u64 a0 (ji9)) (ji11)))) = true
                    · rw [if_pos c36] at H
                      have c36b0 : ((t150 == t151) == (a0 == (Go.bits .or .u64 (Go.bits .andNot .u64 a0 (ji9)) (ji11)))) = true := c36
                      (try (have c36b1 : decide ((t150 == t151) = (a0 == (Go.bits .or .u64 (Go.bits .andNot .u64 a0 (ji9)) (ji11)))) = true := by simpa using c36))
                      (try (have c36b2 : ((t150 == t151) == (a0 == (Go.bits .or .u64 (Go.bits .andNot .u64 a0 (ji9)) (ji11)))) = true := by simpa using c36))
                      clear c36
                      obtain rfl := Option.some.inj H
                      go_wp2_with (first | ((with_reducible refine gate_callee (f := 14) rfl ?_); refine goesL_ (some 63) rfl rfl Tryd.func14 (by kernel_rfl) rfl #[.int .u64 a0, .int .u64 a1] rfl (by (try simp only [List.map_toArray, List.map_cons, List.map_nil]); first | done | rfl | (simp only [List.length_drop, List.length_take]; rfl)) ?_; (with_reducible refine (digest_Pair.calls a0 a1 t150 _ A29.out).mono ?_); rintro e w37 ⟨rfl, hb⟩; refine ⟨_, rfl, ?_⟩; have n0_ := Aside0.mk (below_step (by repeat (first | (with_reducible first | exact HB.out | apply below_alloc | apply pw_below_drewN | apply below_drew1) | exact HB.out)) hb); clear HB; have HB := n0_; clear n0_; (try clear hb); (try clear hb2); (try clear hk); (try clear hi)) | ((with_reducible refine gate_callee (f := 14) rfl ?_); refine goesL_ (some 66) rfl rfl Tryd.func14 (by kernel_rfl) rfl #[.int .u64 (Go.bits .or .u64 (Go.bits .andNot .u64 a0 (ji9)) (ji11)), .int .u64 a1] rfl (by (try simp only [List.map_toArray, List.map_cons, List.map_nil]); first | done | (simp only [hji11, hji9]; rfl) | rfl | (simp only [List.length_drop, List.length_take]; rfl)) ?_; (with_reducible refine (digest_Pair.calls (Go.bits .or .u64 (Go.bits .andNot .u64 a0 (ji9)) (ji11)) a1 t151 _ A30.out).mono ?_); rintro e w38 ⟨rfl, hb⟩; refine ⟨_, rfl, ?_⟩; have n0_ := Aside0.mk (below_step (by repeat (first | (with_reducible first | exact HB.out | apply below_alloc | apply pw_below_drewN | apply below_drew1) | exact HB.out)) hb); clear HB; have HB := n0_; clear n0_; (try clear hb); (try clear hb2); (try clear hk); (try clear hi)) | ((with_reducible refine gate_callee (f := 14) rfl ?_); refine goesL_ (some 69) rfl rfl Tryd.func14 (by kernel_rfl) rfl #[.int .u64 a1, .int .u64 a0] rfl (by (try simp only [List.map_toArray, List.map_cons, List.map_nil]); first | done | rfl | (simp only [List.length_drop, List.length_take]; rfl)) ?_; (with_reducible refine (digest_Pair.calls a1 a0 t152 _ A31.out).mono ?_); rintro e w39 ⟨rfl, hb⟩; refine ⟨_, rfl, ?_⟩; have n0_ := Aside0.mk (below_step (by repeat (first | (with_reducible first | exact HB.out | apply below_alloc | apply pw_below_drewN | apply below_drew1) | exact HB.out)) hb); clear HB; have HB := n0_; clear n0_; (try clear hb); (try clear hb2); (try clear hk); (try clear hi)) | ((with_reducible refine gate_callee (f := 14) rfl ?_); refine goesL_ (some 72) rfl rfl Tryd.func14 (by kernel_rfl) rfl #[.int .u64 a1, .int .u64 (Go.bits .or .u64 (Go.bits .andNot .u64 a0 (ji9)) (ji11))] rfl (by (try simp only [List.map_toArray, List.map_cons, List.map_nil]); first | done | (simp only [hji11, hji9]; rfl) | rfl | (simp only [List.length_drop, List.length_take]; rfl)) ?_; (with_reducible refine (digest_Pair.calls a1 (Go.bits .or .u64 (Go.bits .andNot .u64 a0 (ji9)) (ji11)) t153 _ A32.out).mono ?_); rintro e w40 ⟨rfl, hb⟩; refine ⟨_, rfl, ?_⟩; have n0_ := Aside0.mk (below_step (by repeat (first | (with_reducible first | exact HB.out | apply below_alloc | apply pw_below_drewN | apply below_drew1) | exact HB.out)) hb); clear HB; have HB := n0_; clear n0_; (try clear hb); (try clear hb2); (try clear hk); (try clear hi)) | (go_at_call 12; (with_reducible refine (digest_Sum.calls x13_2 t154 _ A34.out).mono ?_); rintro e w41 ⟨rfl, hb⟩; have n0_ := Aside0.mk (below_step (by repeat (first | (with_reducible first | exact HB.out | apply below_alloc | apply pw_below_drewN | apply below_drew1) | exact HB.out)) hb); clear HB; have HB := n0_; clear n0_; (try clear hb); (try clear hb2); (try clear hk); (try clear hi)))
                      go_ret
                      exact ⟨by first | rfl | (simp [errW_none, errW_some] <;> rfl) | (simp only [← hji7, ← hji9, ← hji11]; first | rfl | (simp [errW_none, errW_some] <;> rfl)) | (simp [*, errW_none, errW_some] <;> rfl), by repeat (first | (with_reducible first | exact HB.out | apply below_alloc | apply pw_below_drewN | apply below_drew1) | exact HB.out)⟩
                    · rw [if_neg c36] at H
                      have c36b0 : ((t150 == t151) == (a0 == (Go.bits .or .u64 (Go.bits .andNot .u64 a0 (ji9)) (ji11)))) = false := by simpa using c36
                      (try (have c36b1 : decide ((t150 == t151) = (a0 == (Go.bits .or .u64 (Go.bits .andNot .u64 a0 (ji9)) (ji11)))) = false := by simpa using c36))
                      (try (have c36b2 : ((t150 == t151) == (a0 == (Go.bits .or .u64 (Go.bits .andNot .u64 a0 (ji9)) (ji11)))) = false := by simpa using c36))
                      (try (have c36b3 : ¬ ((t150 == t151) = (a0 == (Go.bits .or .u64 (Go.bits .andNot .u64 a0 (ji9)) (ji11)))) := by simpa using c36))
                      clear c36
                      obtain rfl := Option.some.inj H
                      go_wp2_with (first | ((with_reducible refine gate_callee (f := 14) rfl ?_); refine goesL_ (some 63) rfl rfl Tryd.func14 (by kernel_rfl) rfl #[.int .u64 a0, .int .u64 a1] rfl (by (try simp only [List.map_toArray, List.map_cons, List.map_nil]); first | done | rfl | (simp only [List.length_drop, List.length_take]; rfl)) ?_; (with_reducible refine (digest_Pair.calls a0 a1 t150 _ A29.out).mono ?_); rintro e w42 ⟨rfl, hb⟩; refine ⟨_, rfl, ?_⟩; have n0_ := Aside0.mk (below_step (by repeat (first | (with_reducible first | exact HB.out | apply below_alloc | apply pw_below_drewN | apply below_drew1) | exact HB.out)) hb); clear HB; have HB := n0_; clear n0_; (try clear hb); (try clear hb2); (try clear hk); (try clear hi)) | ((with_reducible refine gate_callee (f := 14) rfl ?_); refine goesL_ (some 66) rfl rfl Tryd.func14 (by kernel_rfl) rfl #[.int .u64 (Go.bits .or .u64 (Go.bits .andNot .u64 a0 (ji9)) (ji11)), .int .u64 a1] rfl (by (try simp only [List.map_toArray, List.map_cons, List.map_nil]); first | done | (simp only [hji11, hji9]; rfl) | rfl | (simp only [List.length_drop, List.length_take]; rfl)) ?_; (with_reducible refine (digest_Pair.calls (Go.bits .or .u64 (Go.bits .andNot .u64 a0 (ji9)) (ji11)) a1 t151 _ A30.out).mono ?_); rintro e w43 ⟨rfl, hb⟩; refine ⟨_, rfl, ?_⟩; have n0_ := Aside0.mk (below_step (by repeat (first | (with_reducible first | exact HB.out | apply below_alloc | apply pw_below_drewN | apply below_drew1) | exact HB.out)) hb); clear HB; have HB := n0_; clear n0_; (try clear hb); (try clear hb2); (try clear hk); (try clear hi)) | ((with_reducible refine gate_callee (f := 14) rfl ?_); refine goesL_ (some 69) rfl rfl Tryd.func14 (by kernel_rfl) rfl #[.int .u64 a1, .int .u64 a0] rfl (by (try simp only [List.map_toArray, List.map_cons, List.map_nil]); first | done | rfl | (simp only [List.length_drop, List.length_take]; rfl)) ?_; (with_reducible refine (digest_Pair.calls a1 a0 t152 _ A31.out).mono ?_); rintro e w44 ⟨rfl, hb⟩; refine ⟨_, rfl, ?_⟩; have n0_ := Aside0.mk (below_step (by repeat (first | (with_reducible first | exact HB.out | apply below_alloc | apply pw_below_drewN | apply below_drew1) | exact HB.out)) hb); clear HB; have HB := n0_; clear n0_; (try clear hb); (try clear hb2); (try clear hk); (try clear hi)) | ((with_reducible refine gate_callee (f := 14) rfl ?_); refine goesL_ (some 72) rfl rfl Tryd.func14 (by kernel_rfl) rfl #[.int .u64 a1, .int .u64 (Go.bits .or .u64 (Go.bits .andNot .u64 a0 (ji9)) (ji11))] rfl (by (try simp only [List.map_toArray, List.map_cons, List.map_nil]); first | done | (simp only [hji11, hji9]; rfl) | rfl | (simp only [List.length_drop, List.length_take]; rfl)) ?_; (with_reducible refine (digest_Pair.calls a1 (Go.bits .or .u64 (Go.bits .andNot .u64 a0 (ji9)) (ji11)) t153 _ A32.out).mono ?_); rintro e w45 ⟨rfl, hb⟩; refine ⟨_, rfl, ?_⟩; have n0_ := Aside0.mk (below_step (by repeat (first | (with_reducible first | exact HB.out | apply below_alloc | apply pw_below_drewN | apply below_drew1) | exact HB.out)) hb); clear HB; have HB := n0_; clear n0_; (try clear hb); (try clear hb2); (try clear hk); (try clear hi)) | (go_at_call 12; (with_reducible refine (digest_Sum.calls x13_2 t154 _ A34.out).mono ?_); rintro e w46 ⟨rfl, hb⟩; have n0_ := Aside0.mk (below_step (by repeat (first | (with_reducible first | exact HB.out | apply below_alloc | apply pw_below_drewN | apply below_drew1) | exact HB.out)) hb); clear HB; have HB := n0_; clear n0_; (try clear hb); (try clear hb2); (try clear hk); (try clear hi)))
                      go_ret
                      exact ⟨by first | rfl | (simp [errW_none, errW_some] <;> rfl) | (simp only [← hji7, ← hji9, ← hji11]; first | rfl | (simp [errW_none, errW_some] <;> rfl)) | (simp [*, errW_none, errW_some] <;> rfl), by repeat (first | (with_reducible first | exact HB.out | apply below_alloc | apply pw_below_drewN | apply below_drew1) | exact HB.out)⟩
                  · rw [if_neg c35] at H
                    have c35b0 : (t150 == t154) = false := beq_eq_false_iff_ne.mpr c35
                    have c35b1 : (t150 != t154) = true := bne_iff_ne.mpr c35
                    obtain rfl := Option.some.inj H
                    go_wp2_with (first | ((with_reducible refine gate_callee (f := 14) rfl ?_); refine goesL_ (some 63) rfl rfl Tryd.func14 (by kernel_rfl) rfl #[.int .u64 a0, .int .u64 a1] rfl (by (try simp only [List.map_toArray, List.map_cons, List.map_nil]); first | done | rfl | (simp only [List.length_drop, List.length_take]; rfl)) ?_; (with_reducible refine (digest_Pair.calls a0 a1 t150 _ A29.out).mono ?_); rintro e w47 ⟨rfl, hb⟩; refine ⟨_, rfl, ?_⟩; have n0_ := Aside0.mk (below_step (by repeat (first | (with_reducible first | exact HB.out | apply below_alloc | apply pw_below_drewN | apply below_drew1) | exact HB.out)) hb); clear HB; have HB := n0_; clear n0_; (try clear hb); (try clear hb2); (try clear hk); (try clear hi)) | ((with_reducible refine gate_callee (f := 14) rfl ?_); refine goesL_ (some 66) rfl rfl Tryd.func14 (by kernel_rfl) rfl #[.int .u64 (Go.bits .or .u64 (Go.bits .andNot .u64 a0 (ji9)) (ji11)), .int .u64 a1] rfl (by (try simp only [List.map_toArray, List.map_cons, List.map_nil]); first | done | (simp only [hji11, hji9]; rfl) | rfl | (simp only [List.length_drop, List.length_take]; rfl)) ?_; (with_reducible refine (digest_Pair.calls (Go.bits .or .u64 (Go.bits .andNot .u64 a0 (ji9)) (ji11)) a1 t151 _ A30.out).mono ?_); rintro e w48 ⟨rfl, hb⟩; refine ⟨_, rfl, ?_⟩; have n0_ := Aside0.mk (below_step (by repeat (first | (with_reducible first | exact HB.out | apply below_alloc | apply pw_below_drewN | apply below_drew1) | exact HB.out)) hb); clear HB; have HB := n0_; clear n0_; (try clear hb); (try clear hb2); (try clear hk); (try clear hi)) | ((with_reducible refine gate_callee (f := 14) rfl ?_); refine goesL_ (some 69) rfl rfl Tryd.func14 (by kernel_rfl) rfl #[.int .u64 a1, .int .u64 a0] rfl (by (try simp only [List.map_toArray, List.map_cons, List.map_nil]); first | done | rfl | (simp only [List.length_drop, List.length_take]; rfl)) ?_; (with_reducible refine (digest_Pair.calls a1 a0 t152 _ A31.out).mono ?_); rintro e w49 ⟨rfl, hb⟩; refine ⟨_, rfl, ?_⟩; have n0_ := Aside0.mk (below_step (by repeat (first | (with_reducible first | exact HB.out | apply below_alloc | apply pw_below_drewN | apply below_drew1) | exact HB.out)) hb); clear HB; have HB := n0_; clear n0_; (try clear hb); (try clear hb2); (try clear hk); (try clear hi)) | ((with_reducible refine gate_callee (f := 14) rfl ?_); refine goesL_ (some 72) rfl rfl Tryd.func14 (by kernel_rfl) rfl #[.int .u64 a1, .int .u64 (Go.bits .or .u64 (Go.bits .andNot .u64 a0 (ji9)) (ji11))] rfl (by (try simp only [List.map_toArray, List.map_cons, List.map_nil]); first | done | (simp only [hji11, hji9]; rfl) | rfl | (simp only [List.length_drop, List.length_take]; rfl)) ?_; (with_reducible refine (digest_Pair.calls a1 (Go.bits .or .u64 (Go.bits .andNot .u64 a0 (ji9)) (ji11)) t153 _ A32.out).mono ?_); rintro e w50 ⟨rfl, hb⟩; refine ⟨_, rfl, ?_⟩; have n0_ := Aside0.mk (below_step (by repeat (first | (with_reducible first | exact HB.out | apply below_alloc | apply pw_below_drewN | apply below_drew1) | exact HB.out)) hb); clear HB; have HB := n0_; clear n0_; (try clear hb); (try clear hb2); (try clear hk); (try clear hi)) | (go_at_call 12; (with_reducible refine (digest_Sum.calls x13_2 t154 _ A34.out).mono ?_); rintro e w51 ⟨rfl, hb⟩; have n0_ := Aside0.mk (below_step (by repeat (first | (with_reducible first | exact HB.out | apply below_alloc | apply pw_below_drewN | apply below_drew1) | exact HB.out)) hb); clear HB; have HB := n0_; clear n0_; (try clear hb); (try clear hb2); (try clear hk); (try clear hi)))
                    go_ret
                    exact ⟨by first | rfl | (simp [errW_none, errW_some] <;> rfl) | (simp only [← hji7, ← hji9, ← hji11]; first | rfl | (simp [errW_none, errW_some] <;> rfl)) | (simp [*, errW_none, errW_some] <;> rfl), by repeat (first | (with_reducible first | exact HB.out | apply below_alloc | apply pw_below_drewN | apply below_drew1) | exact HB.out)⟩
                · replace c33 := Bool.eq_false_iff.mpr c33
                  subst c33
                  have H1 : (some false) = some r := by rw [if_neg (show ¬ (false = true) by decide)] at H; exact H
                  clear H
                  have H := H1
                  clear H1
                  obtain rfl := Option.some.inj H
                  go_wp2_with (first | ((with_reducible refine gate_callee (f := 14) rfl ?_); refine goesL_ (some 63) rfl rfl Tryd.func14 (by kernel_rfl) rfl #[.int .u64 a0, .int .u64 a1] rfl (by (try simp only [List.map_toArray, List.map_cons, List.map_nil]); first | done | rfl | (simp only [List.length_drop, List.length_take]; rfl)) ?_; (with_reducible refine (digest_Pair.calls a0 a1 t150 _ A29.out).mono ?_); rintro e w52 ⟨rfl, hb⟩; refine ⟨_, rfl, ?_⟩; have n0_ := Aside0.mk (below_step (by repeat (first | (with_reducible first | exact HB.out | apply below_alloc | apply pw_below_drewN | apply below_drew1) | exact HB.out)) hb); clear HB; have HB := n0_; clear n0_; (try clear hb); (try clear hb2); (try clear hk); (try clear hi)) | ((with_reducible refine gate_callee (f := 14) rfl ?_); refine goesL_ (some 66) rfl rfl Tryd.func14 (by kernel_rfl) rfl #[.int .u64 (Go.bits .or .u64 (Go.bits .andNot .u64 a0 (ji9)) (ji11)), .int .u64 a1] rfl (by (try simp only [List.map_toArray, List.map_cons, List.map_nil]); first | done | (simp only [hji11, hji9]; rfl) | rfl | (simp only [List.length_drop, List.length_take]; rfl)) ?_; (with_reducible refine (digest_Pair.calls (Go.bits .or .u64 (Go.bits .andNot .u64 a0 (ji9)) (ji11)) a1 t151 _ A30.out).mono ?_); rintro e w53 ⟨rfl, hb⟩; refine ⟨_, rfl, ?_⟩; have n0_ := Aside0.mk (below_step (by repeat (first | (with_reducible first | exact HB.out | apply below_alloc | apply pw_below_drewN | apply below_drew1) | exact HB.out)) hb); clear HB; have HB := n0_; clear n0_; (try clear hb); (try clear hb2); (try clear hk); (try clear hi)) | ((with_reducible refine gate_callee (f := 14) rfl ?_); refine goesL_ (some 69) rfl rfl Tryd.func14 (by kernel_rfl) rfl #[.int .u64 a1, .int .u64 a0] rfl (by (try simp only [List.map_toArray, List.map_cons, List.map_nil]); first | done | rfl | (simp only [List.length_drop, List.length_take]; rfl)) ?_; (with_reducible refine (digest_Pair.calls a1 a0 t152 _ A31.out).mono ?_); rintro e w54 ⟨rfl, hb⟩; refine ⟨_, rfl, ?_⟩; have n0_ := Aside0.mk (below_step (by repeat (first | (with_reducible first | exact HB.out | apply below_alloc | apply pw_below_drewN | apply below_drew1) | exact HB.out)) hb); clear HB; have HB := n0_; clear n0_; (try clear hb); (try clear hb2); (try clear hk); (try clear hi)) | ((with_reducible refine gate_callee (f := 14) rfl ?_); refine goesL_ (some 72) rfl rfl Tryd.func14 (by kernel_rfl) rfl #[.int .u64 a1, .int .u64 (Go.bits .or .u64 (Go.bits .andNot .u64 a0 (ji9)) (ji11))] rfl (by (try simp only [List.map_toArray, List.map_cons, List.map_nil]); first | done | (simp only [hji11, hji9]; rfl) | rfl | (simp only [List.length_drop, List.length_take]; rfl)) ?_; (with_reducible refine (digest_Pair.calls a1 (Go.bits .or .u64 (Go.bits .andNot .u64 a0 (ji9)) (ji11)) t153 _ A32.out).mono ?_); rintro e w55 ⟨rfl, hb⟩; refine ⟨_, rfl, ?_⟩; have n0_ := Aside0.mk (below_step (by repeat (first | (with_reducible first | exact HB.out | apply below_alloc | apply pw_below_drewN | apply below_drew1) | exact HB.out)) hb); clear HB; have HB := n0_; clear n0_; (try clear hb); (try clear hb2); (try clear hk); (try clear hi)))
                  go_ret
                  exact ⟨by first | rfl | (simp [errW_none, errW_some] <;> rfl) | (simp only [← hji7, ← hji9, ← hji11]; first | rfl | (simp [errW_none, errW_some] <;> rfl)) | (simp [*, errW_none, errW_some] <;> rfl), by repeat (first | (with_reducible first | exact HB.out | apply below_alloc | apply pw_below_drewN | apply below_drew1) | exact HB.out)⟩
  · rw [if_neg c8] at H
    exact absurd H (by simp)

/-- THE ONE PURE STATEMENT of wageofficelaw23_DigestPairByte: yours. -/
def wageofficelaw23_DigestPairByte.Pure : Prop := ∀ (a0 : Int) (a1 : Int) (a2 : Int) (a3 : Int), (Lit.int .u64 a0).wf = true → (Lit.int .u64 a1).wf = true → (Lit.int .i64 a2).wf = true → (Lit.int .u8 a3).wf = true → ∃ k, wageofficelaw23_DigestPairByte.f k a0 a1 a2 a3 = some true
/-! ### wageofficelaw23_DigestExtends: function 6 -/
def wageofficelaw23_DigestExtends.f (k : Nat) (a0 : ByteArray) (a1 : ByteArray) (a2 : ByteArray) : Option (Bool) := (wageofficelaw23_head.f k).bind fun t155 => (if 0 ≤ (mn (mn (a0.size : Int) (a1.size : Int)) 2000) then (if (mn (mn (a0.size : Int) (a1.size : Int)) 2000) ≤ (a0.size : Int) then (if (mn (mn (a0.size : Int) (a1.size : Int)) 2000) ≤ (a1.size : Int) then (if 0 ≤ (mn (a2.size : Int) 2000) then (if (mn (a2.size : Int) 2000) ≤ (a2.size : Int) then (if t155 = true then ((digest_Sum.f (a0.extract 0 ((mn (mn (a0.size : Int) (a1.size : Int)) 2000) : Int).toNat)).bind fun t156 => ((digest_Sum.f (a1.extract 0 ((mn (mn (a0.size : Int) (a1.size : Int)) 2000) : Int).toNat)).bind fun t157 => (if (a0.extract 0 ((mn (mn (a0.size : Int) (a1.size : Int)) 2000) : Int).toNat).size + (a2.extract 0 ((mn (a2.size : Int) 2000) : Int).toNat).size ≤ 9223372036854775807 then ((digest_Sum.f ((a0.extract 0 ((mn (mn (a0.size : Int) (a1.size : Int)) 2000) : Int).toNat) ++ (a2.extract 0 ((mn (a2.size : Int) 2000) : Int).toNat))).bind fun t158 => (if (a1.extract 0 ((mn (mn (a0.size : Int) (a1.size : Int)) 2000) : Int).toNat).size + (a2.extract 0 ((mn (a2.size : Int) 2000) : Int).toNat).size ≤ 9223372036854775807 then ((digest_Sum.f ((a1.extract 0 ((mn (mn (a0.size : Int) (a1.size : Int)) 2000) : Int).toNat) ++ (a2.extract 0 ((mn (a2.size : Int) 2000) : Int).toNat))).bind fun t159 => (some ((t156 == t157) == (t158 == t159)))) else (none))) else (none)))) else (some false)) else (none)) else (none)) else (none)) else (none)) else (none))
theorem wageofficelaw23_DigestExtends.mono : ∀ a0 a1 a2 k, LeO (wageofficelaw23_DigestExtends.f k a0 a1 a2) (wageofficelaw23_DigestExtends.f (k + 1) a0 a1 a2) := by
  intro a0 a1 a2 k
  unfold wageofficelaw23_DigestExtends.f
  repeat' first
      | (with_reducible exact wageofficelaw23_head.mono _)
      | (with_reducible exact LeO.refl _)
      | (with_reducible exact LeO.none _)
      | (with_reducible refine LeO.ite ?_ ?_)
      | (with_reducible refine LeO.bind ?_ (fun _ => ?_))
      | exact wageofficelaw23_head.mono _
      | exact LeO.none _
      | refine LeO.ite ?_ ?_
      | refine LeO.bind ?_ (fun _ => ?_)
set_option maxHeartbeats 8000000 in
set_option maxRecDepth 100000 in
theorem wageofficelaw23_DigestExtends.calls (k : Nat) (a0 : ByteArray) (a1 : ByteArray) (a2 : ByteArray) (r : Bool) (w : World) (h : wageofficelaw23_DigestExtends.f k a0 a1 a2 = some r) (hTHex0 : TabHex w) :
    Calls Tryd.prog 6 #[.string a0, .string a1, .string a2] w fun e w' => e = .returned (.bool r) ∧ Below w.heap.size w w' := by
  have hTHex := Aside0.mk hTHex0
  clear hTHex0
  have HB := Aside0.mk (Below.refl w.heap.size w)
  have H : ((wageofficelaw23_head.f k).bind fun t155 => (if 0 ≤ (mn (mn (a0.size : Int) (a1.size : Int)) 2000) then (if (mn (mn (a0.size : Int) (a1.size : Int)) 2000) ≤ (a0.size : Int) then (if (mn (mn (a0.size : Int) (a1.size : Int)) 2000) ≤ (a1.size : Int) then (if 0 ≤ (mn (a2.size : Int) 2000) then (if (mn (a2.size : Int) 2000) ≤ (a2.size : Int) then (if t155 = true then ((digest_Sum.f (a0.extract 0 ((mn (mn (a0.size : Int) (a1.size : Int)) 2000) : Int).toNat)).bind fun t156 => ((digest_Sum.f (a1.extract 0 ((mn (mn (a0.size : Int) (a1.size : Int)) 2000) : Int).toNat)).bind fun t157 => (if (a0.extract 0 ((mn (mn (a0.size : Int) (a1.size : Int)) 2000) : Int).toNat).size + (a2.extract 0 ((mn (a2.size : Int) 2000) : Int).toNat).size ≤ 9223372036854775807 then ((digest_Sum.f ((a0.extract 0 ((mn (mn (a0.size : Int) (a1.size : Int)) 2000) : Int).toNat) ++ (a2.extract 0 ((mn (a2.size : Int) 2000) : Int).toNat))).bind fun t158 => (if (a1.extract 0 ((mn (mn (a0.size : Int) (a1.size : Int)) 2000) : Int).toNat).size + (a2.extract 0 ((mn (a2.size : Int) 2000) : Int).toNat).size ≤ 9223372036854775807 then ((digest_Sum.f ((a1.extract 0 ((mn (mn (a0.size : Int) (a1.size : Int)) 2000) : Int).toNat) ++ (a2.extract 0 ((mn (a2.size : Int) 2000) : Int).toNat))).bind fun t159 => (some ((t156 == t157) == (t158 == t159)))) else (none))) else (none)))) else (some false)) else (none)) else (none)) else (none)) else (none)) else (none))) = some r := h
  clear h
  replace H := Option.bind_eq_some_iff.mp H
  obtain ⟨t155, A40, H⟩ := H
  replace H : (if 0 ≤ (mn (mn (a0.size : Int) (a1.size : Int)) 2000) then (if (mn (mn (a0.size : Int) (a1.size : Int)) 2000) ≤ (a0.size : Int) then (if (mn (mn (a0.size : Int) (a1.size : Int)) 2000) ≤ (a1.size : Int) then (if 0 ≤ (mn (a2.size : Int) 2000) then (if (mn (a2.size : Int) 2000) ≤ (a2.size : Int) then (if t155 = true then ((digest_Sum.f (a0.extract 0 ((mn (mn (a0.size : Int) (a1.size : Int)) 2000) : Int).toNat)).bind fun t156 => ((digest_Sum.f (a1.extract 0 ((mn (mn (a0.size : Int) (a1.size : Int)) 2000) : Int).toNat)).bind fun t157 => (if (a0.extract 0 ((mn (mn (a0.size : Int) (a1.size : Int)) 2000) : Int).toNat).size + (a2.extract 0 ((mn (a2.size : Int) 2000) : Int).toNat).size ≤ 9223372036854775807 then ((digest_Sum.f ((a0.extract 0 ((mn (mn (a0.size : Int) (a1.size : Int)) 2000) : Int).toNat) ++ (a2.extract 0 ((mn (a2.size : Int) 2000) : Int).toNat))).bind fun t158 => (if (a1.extract 0 ((mn (mn (a0.size : Int) (a1.size : Int)) 2000) : Int).toNat).size + (a2.extract 0 ((mn (a2.size : Int) 2000) : Int).toNat).size ≤ 9223372036854775807 then ((digest_Sum.f ((a1.extract 0 ((mn (mn (a0.size : Int) (a1.size : Int)) 2000) : Int).toNat) ++ (a2.extract 0 ((mn (a2.size : Int) 2000) : Int).toNat))).bind fun t159 => (some ((t156 == t157) == (t158 == t159)))) else (none))) else (none)))) else (some false)) else (none)) else (none)) else (none)) else (none)) else (none)) = some r := H
  have A4 := Aside0.mk A40
  clear A40
  obtain ⟨ji5, hji5⟩ : ∃ j_ : Int, (mn (a0.size : Int) (a1.size : Int)) = j_ := ⟨_, rfl⟩
  replace H : (if 0 ≤ (mn (ji5) 2000) then (if (mn (ji5) 2000) ≤ (a0.size : Int) then (if (mn (ji5) 2000) ≤ (a1.size : Int) then (if 0 ≤ (mn (a2.size : Int) 2000) then (if (mn (a2.size : Int) 2000) ≤ (a2.size : Int) then (if t155 = true then ((digest_Sum.f (a0.extract 0 ((mn (ji5) 2000) : Int).toNat)).bind fun t156 => ((digest_Sum.f (a1.extract 0 ((mn (ji5) 2000) : Int).toNat)).bind fun t157 => (if (a0.extract 0 ((mn (ji5) 2000) : Int).toNat).size + (a2.extract 0 ((mn (a2.size : Int) 2000) : Int).toNat).size ≤ 9223372036854775807 then ((digest_Sum.f ((a0.extract 0 ((mn (ji5) 2000) : Int).toNat) ++ (a2.extract 0 ((mn (a2.size : Int) 2000) : Int).toNat))).bind fun t158 => (if (a1.extract 0 ((mn (ji5) 2000) : Int).toNat).size + (a2.extract 0 ((mn (a2.size : Int) 2000) : Int).toNat).size ≤ 9223372036854775807 then ((digest_Sum.f ((a1.extract 0 ((mn (ji5) 2000) : Int).toNat) ++ (a2.extract 0 ((mn (a2.size : Int) 2000) : Int).toNat))).bind fun t159 => (some ((t156 == t157) == (t158 == t159)))) else (none))) else (none)))) else (some false)) else (none)) else (none)) else (none)) else (none)) else (none)) = some r := by first | (rw [hji5] at H; exact H) | (simp only [hji5] at H ⊢; exact H)
  (try rw [hji5] at A4)
  (try (have hji5l : 0 ≤ ji5 := by (rw [← hji5]; unfold mn; (repeat' split) <;> omega)))
  (try (have hji5m : 0 ≤ ji5 := by omega))
  have hji5_ : (if (a1.size : Int) < (a0.size : Int) then (a1.size : Int) else (a0.size : Int)) = ji5 := hji5
  have hji5n : (if a1.size < a0.size then (a1.size : Int) else (a0.size : Int)) = ji5 := by rw [← hji5_]; simp only [Int.ofNat_lt]
  obtain ⟨ji6, hji6⟩ : ∃ j_ : Int, (mn (ji5) 2000) = j_ := ⟨_, rfl⟩
  replace H : (if 0 ≤ (ji6) then (if (ji6) ≤ (a0.size : Int) then (if (ji6) ≤ (a1.size : Int) then (if 0 ≤ (mn (a2.size : Int) 2000) then (if (mn (a2.size : Int) 2000) ≤ (a2.size : Int) then (if t155 = true then ((digest_Sum.f (a0.extract 0 ((ji6) : Int).toNat)).bind fun t156 => ((digest_Sum.f (a1.extract 0 ((ji6) : Int).toNat)).bind fun t157 => (if (a0.extract 0 ((ji6) : Int).toNat).size + (a2.extract 0 ((mn (a2.size : Int) 2000) : Int).toNat).size ≤ 9223372036854775807 then ((digest_Sum.f ((a0.extract 0 ((ji6) : Int).toNat) ++ (a2.extract 0 ((mn (a2.size : Int) 2000) : Int).toNat))).bind fun t158 => (if (a1.extract 0 ((ji6) : Int).toNat).size + (a2.extract 0 ((mn (a2.size : Int) 2000) : Int).toNat).size ≤ 9223372036854775807 then ((digest_Sum.f ((a1.extract 0 ((ji6) : Int).toNat) ++ (a2.extract 0 ((mn (a2.size : Int) 2000) : Int).toNat))).bind fun t159 => (some ((t156 == t157) == (t158 == t159)))) else (none))) else (none)))) else (some false)) else (none)) else (none)) else (none)) else (none)) else (none)) = some r := by first | (rw [hji6] at H; exact H) | (simp only [hji6] at H ⊢; exact H)
  (try rw [hji6] at A4)
  have hji6_ : (if 2000 < (ji5) then 2000 else (ji5)) = ji6 := hji6
  by_cases c7 : 0 ≤ (ji6)
  · rw [if_pos c7] at H
    have c7b0 := eq_true c7
    have c7b1 : decide (0 ≤ (ji6)) = true := decide_eq_true c7
    clear c7
    by_cases c8 : (ji6) ≤ (a0.size : Int)
    · rw [if_pos c8] at H
      have c8b0 := eq_true c8
      have c8b1 : decide ((ji6) ≤ (a0.size : Int)) = true := decide_eq_true c8
      clear c8
      obtain ⟨js9, hjs9⟩ : ∃ s_ : ByteArray, (a0.extract 0 ((ji6) : Int).toNat) = s_ := ⟨_, rfl⟩
      replace H : (if (ji6) ≤ (a1.size : Int) then (if 0 ≤ (mn (a2.size : Int) 2000) then (if (mn (a2.size : Int) 2000) ≤ (a2.size : Int) then (if t155 = true then ((digest_Sum.f js9).bind fun t156 => ((digest_Sum.f (a1.extract 0 ((ji6) : Int).toNat)).bind fun t157 => (if js9.size + (a2.extract 0 ((mn (a2.size : Int) 2000) : Int).toNat).size ≤ 9223372036854775807 then ((digest_Sum.f (js9 ++ (a2.extract 0 ((mn (a2.size : Int) 2000) : Int).toNat))).bind fun t158 => (if (a1.extract 0 ((ji6) : Int).toNat).size + (a2.extract 0 ((mn (a2.size : Int) 2000) : Int).toNat).size ≤ 9223372036854775807 then ((digest_Sum.f ((a1.extract 0 ((ji6) : Int).toNat) ++ (a2.extract 0 ((mn (a2.size : Int) 2000) : Int).toNat))).bind fun t159 => (some ((t156 == t157) == (t158 == t159)))) else (none))) else (none)))) else (some false)) else (none)) else (none)) else (none)) = some r := by first | (rw [hjs9] at H; exact H) | (simp only [hjs9] at H ⊢; exact H)
      (try rw [hjs9] at A4)
      have c10b0 := eq_true (of_decide_eq_true (by first | (with_reducible assumption) | assumption) : 0 ≤ (ji6))
      by_cases c11 : (ji6) ≤ (a1.size : Int)
      · rw [if_pos c11] at H
        have c11b0 := eq_true c11
        have c11b1 : decide ((ji6) ≤ (a1.size : Int)) = true := decide_eq_true c11
        clear c11
        obtain ⟨js12, hjs12⟩ : ∃ s_ : ByteArray, (a1.extract 0 ((ji6) : Int).toNat) = s_ := ⟨_, rfl⟩
        replace H : (if 0 ≤ (mn (a2.size : Int) 2000) then (if (mn (a2.size : Int) 2000) ≤ (a2.size : Int) then (if t155 = true then ((digest_Sum.f js9).bind fun t156 => ((digest_Sum.f js12).bind fun t157 => (if js9.size + (a2.extract 0 ((mn (a2.size : Int) 2000) : Int).toNat).size ≤ 9223372036854775807 then ((digest_Sum.f (js9 ++ (a2.extract 0 ((mn (a2.size : Int) 2000) : Int).toNat))).bind fun t158 => (if js12.size + (a2.extract 0 ((mn (a2.size : Int) 2000) : Int).toNat).size ≤ 9223372036854775807 then ((digest_Sum.f (js12 ++ (a2.extract 0 ((mn (a2.size : Int) 2000) : Int).toNat))).bind fun t159 => (some ((t156 == t157) == (t158 == t159)))) else (none))) else (none)))) else (some false)) else (none)) else (none)) = some r := by first | (rw [hjs12] at H; exact H) | (simp only [hjs12] at H ⊢; exact H)
        (try rw [hjs12] at A4)
        obtain ⟨ji13, hji13⟩ : ∃ j_ : Int, (mn (a2.size : Int) 2000) = j_ := ⟨_, rfl⟩
        replace H : (if 0 ≤ (ji13) then (if (ji13) ≤ (a2.size : Int) then (if t155 = true then ((digest_Sum.f js9).bind fun t156 => ((digest_Sum.f js12).bind fun t157 => (if js9.size + (a2.extract 0 ((ji13) : Int).toNat).size ≤ 9223372036854775807 then ((digest_Sum.f (js9 ++ (a2.extract 0 ((ji13) : Int).toNat))).bind fun t158 => (if js12.size + (a2.extract 0 ((ji13) : Int).toNat).size ≤ 9223372036854775807 then ((digest_Sum.f (js12 ++ (a2.extract 0 ((ji13) : Int).toNat))).bind fun t159 => (some ((t156 == t157) == (t158 == t159)))) else (none))) else (none)))) else (some false)) else (none)) else (none)) = some r := by first | (rw [hji13] at H; exact H) | (simp only [hji13] at H ⊢; exact H)
        (try rw [hji13] at A4)
        (try (have hji13h : ji13 ≤ 2000 := by (rw [← hji13]; unfold mn; (repeat' split) <;> omega)))
        (try (have hji13g : ji13 ≤ 64 := by omega))
        (try (have hji13l : 0 ≤ ji13 := by (rw [← hji13]; unfold mn; (repeat' split) <;> omega)))
        (try (have hji13m : 0 ≤ ji13 := by omega))
        have hji13_ : (if 2000 < (a2.size : Int) then 2000 else (a2.size : Int)) = ji13 := hji13
        by_cases c14 : 0 ≤ (ji13)
        · rw [if_pos c14] at H
          have c14b0 := eq_true c14
          have c14b1 : decide (0 ≤ (ji13)) = true := decide_eq_true c14
          clear c14
          by_cases c15 : (ji13) ≤ (a2.size : Int)
          · rw [if_pos c15] at H
            have c15b0 := eq_true c15
            have c15b1 : decide ((ji13) ≤ (a2.size : Int)) = true := decide_eq_true c15
            clear c15
            obtain ⟨js16, hjs16⟩ : ∃ s_ : ByteArray, (a2.extract 0 ((ji13) : Int).toNat) = s_ := ⟨_, rfl⟩
            replace H : (if t155 = true then ((digest_Sum.f js9).bind fun t156 => ((digest_Sum.f js12).bind fun t157 => (if js9.size + js16.size ≤ 9223372036854775807 then ((digest_Sum.f (js9 ++ js16)).bind fun t158 => (if js12.size + js16.size ≤ 9223372036854775807 then ((digest_Sum.f (js12 ++ js16)).bind fun t159 => (some ((t156 == t157) == (t158 == t159)))) else (none))) else (none)))) else (some false)) = some r := by first | (rw [hjs16] at H; exact H) | (simp only [hjs16] at H ⊢; exact H)
            (try rw [hjs16] at A4)
            by_cases c17 : t155 = true
            · subst c17
              have H1 : ((digest_Sum.f js9).bind fun t156 => ((digest_Sum.f js12).bind fun t157 => (if js9.size + js16.size ≤ 9223372036854775807 then ((digest_Sum.f (js9 ++ js16)).bind fun t158 => (if js12.size + js16.size ≤ 9223372036854775807 then ((digest_Sum.f (js12 ++ js16)).bind fun t159 => (some ((t156 == t157) == (t158 == t159)))) else (none))) else (none)))) = some r := by rw [if_pos rfl] at H; exact H
              clear H
              have H := H1
              clear H1
              replace H := Option.bind_eq_some_iff.mp H
              obtain ⟨t156, A180, H⟩ := H
              replace H : ((digest_Sum.f js12).bind fun t157 => (if js9.size + js16.size ≤ 9223372036854775807 then ((digest_Sum.f (js9 ++ js16)).bind fun t158 => (if js12.size + js16.size ≤ 9223372036854775807 then ((digest_Sum.f (js12 ++ js16)).bind fun t159 => (some ((t156 == t157) == (t158 == t159)))) else (none))) else (none))) = some r := H
              have A18 := Aside0.mk A180
              clear A180
              replace H := Option.bind_eq_some_iff.mp H
              obtain ⟨t157, A190, H⟩ := H
              replace H : (if js9.size + js16.size ≤ 9223372036854775807 then ((digest_Sum.f (js9 ++ js16)).bind fun t158 => (if js12.size + js16.size ≤ 9223372036854775807 then ((digest_Sum.f (js12 ++ js16)).bind fun t159 => (some ((t156 == t157) == (t158 == t159)))) else (none))) else (none)) = some r := H
              have A19 := Aside0.mk A190
              clear A190
              by_cases c20 : js9.size + js16.size ≤ 9223372036854775807
              · rw [if_pos c20] at H
                have c20b0 := eq_true c20
                have c20b1 : decide (js9.size + js16.size ≤ 9223372036854775807) = true := decide_eq_true c20
                try have c20b2 : (9223372036854775807 < js9.size + js16.size) = False := eq_false (Nat.not_lt.2 c20)
                replace H := Option.bind_eq_some_iff.mp H
                obtain ⟨t158, A210, H⟩ := H
                replace H : (if js12.size + js16.size ≤ 9223372036854775807 then ((digest_Sum.f (js12 ++ js16)).bind fun t159 => (some ((t156 == t157) == (t158 == t159)))) else (none)) = some r := H
                have A21 := Aside0.mk A210
                clear A210
                by_cases c22 : js12.size + js16.size ≤ 9223372036854775807
                · rw [if_pos c22] at H
                  have c22b0 := eq_true c22
                  have c22b1 : decide (js12.size + js16.size ≤ 9223372036854775807) = true := decide_eq_true c22
                  try have c22b2 : (9223372036854775807 < js12.size + js16.size) = False := eq_false (Nat.not_lt.2 c22)
                  replace H := Option.bind_eq_some_iff.mp H
                  obtain ⟨t159, A230, H⟩ := H
                  replace H : (some ((t156 == t157) == (t158 == t159))) = some r := H
                  have A23 := Aside0.mk A230
                  clear A230
                  obtain rfl := Option.some.inj H
                  go_enter Tryd.func6, Tryd.ntmps6
                  go_wp2_with (first | ((with_reducible refine gate_callee (f := 9) rfl ?_); refine goesL_ (some 9) rfl rfl Tryd.func9 (by kernel_rfl) rfl #[] rfl (by (try simp only [List.map_toArray, List.map_cons, List.map_nil]); first | done | rfl | (simp only [List.length_drop, List.length_take]; rfl)) ?_; (with_reducible refine (wageofficelaw23_head.calls k  true _ A4.out (TabHex.below hTHex.out (by repeat (first | (with_reducible first | exact HB.out | exact Below.refl _ _ | apply below_alloc | apply pw_below_drewN | apply below_drew1 | apply below_drew) | exact HB.out)))).mono ?_); rintro e w24 ⟨rfl, hb⟩; refine ⟨_, rfl, ?_⟩; have n0_ := Aside0.mk (below_step (by repeat (first | (with_reducible first | exact HB.out | apply below_alloc | apply pw_below_drewN | apply below_drew1) | exact HB.out)) hb); clear HB; have HB := n0_; clear n0_; (try clear hb); (try clear hb2); (try clear hk); (try clear hi)) | (go_at_call 12; (with_reducible refine (digest_Sum.calls js9 t156 _ A18.out).mono ?_); rintro e w25 ⟨rfl, hb⟩; have n0_ := Aside0.mk (below_step (by repeat (first | (with_reducible first | exact HB.out | apply below_alloc | apply pw_below_drewN | apply below_drew1) | exact HB.out)) hb); clear HB; have HB := n0_; clear n0_; (try clear hb); (try clear hb2); (try clear hk); (try clear hi)) | (go_at_call 12; (with_reducible refine (digest_Sum.calls js12 t157 _ A19.out).mono ?_); rintro e w26 ⟨rfl, hb⟩; have n0_ := Aside0.mk (below_step (by repeat (first | (with_reducible first | exact HB.out | apply below_alloc | apply pw_below_drewN | apply below_drew1) | exact HB.out)) hb); clear HB; have HB := n0_; clear n0_; (try clear hb); (try clear hb2); (try clear hk); (try clear hi)) | (go_at_call 12; (with_reducible refine (digest_Sum.calls (js9 ++ js16) t158 _ A21.out).mono ?_); rintro e w27 ⟨rfl, hb⟩; have n0_ := Aside0.mk (below_step (by repeat (first | (with_reducible first | exact HB.out | apply below_alloc | apply pw_below_drewN | apply below_drew1) | exact HB.out)) hb); clear HB; have HB := n0_; clear n0_; (try clear hb); (try clear hb2); (try clear hk); (try clear hi)) | (go_at_call 12; (with_reducible refine (digest_Sum.calls (js12 ++ js16) t159 _ A23.out).mono ?_); rintro e w28 ⟨rfl, hb⟩; have n0_ := Aside0.mk (below_step (by repeat (first | (with_reducible first | exact HB.out | apply below_alloc | apply pw_below_drewN | apply below_drew1) | exact HB.out)) hb); clear HB; have HB := n0_; clear n0_; (try clear hb); (try clear hb2); (try clear hk); (try clear hi)))
                  go_ret
                  exact ⟨by first | rfl | (simp [errW_none, errW_some] <;> rfl) | (simp only [← hji5, ← hji6, ← hjs9, ← hjs12, ← hji13, ← hjs16]; first | rfl | (simp [errW_none, errW_some] <;> rfl)) | (simp [*, errW_none, errW_some] <;> rfl), by repeat (first | (with_reducible first | exact HB.out | apply below_alloc | apply pw_below_drewN | apply below_drew1) | exact HB.out)⟩
                · rw [if_neg c22] at H
                  exact absurd H (by simp)
              · rw [if_neg c20] at H
                exact absurd H (by simp)
            · replace c17 := Bool.eq_false_iff.mpr c17
              subst c17
              have H1 : (some false) = some r := by rw [if_neg (show ¬ (false = true) by decide)] at H; exact H
              clear H
              have H := H1
              clear H1
              obtain rfl := Option.some.inj H
              go_enter Tryd.func6, Tryd.ntmps6
              go_wp2_with (first | ((with_reducible refine gate_callee (f := 9) rfl ?_); refine goesL_ (some 9) rfl rfl Tryd.func9 (by kernel_rfl) rfl #[] rfl (by (try simp only [List.map_toArray, List.map_cons, List.map_nil]); first | done | rfl | (simp only [List.length_drop, List.length_take]; rfl)) ?_; (with_reducible refine (wageofficelaw23_head.calls k  false _ A4.out (TabHex.below hTHex.out (by repeat (first | (with_reducible first | exact HB.out | exact Below.refl _ _ | apply below_alloc | apply pw_below_drewN | apply below_drew1 | apply below_drew) | exact HB.out)))).mono ?_); rintro e w29 ⟨rfl, hb⟩; refine ⟨_, rfl, ?_⟩; have n0_ := Aside0.mk (below_step (by repeat (first | (with_reducible first | exact HB.out | apply below_alloc | apply pw_below_drewN | apply below_drew1) | exact HB.out)) hb); clear HB; have HB := n0_; clear n0_; (try clear hb); (try clear hb2); (try clear hk); (try clear hi)))
              go_ret
              exact ⟨by first | rfl | (simp [errW_none, errW_some] <;> rfl) | (simp only [← hji5, ← hji6, ← hjs9, ← hjs12, ← hji13, ← hjs16]; first | rfl | (simp [errW_none, errW_some] <;> rfl)) | (simp [*, errW_none, errW_some] <;> rfl), by repeat (first | (with_reducible first | exact HB.out | apply below_alloc | apply pw_below_drewN | apply below_drew1) | exact HB.out)⟩
          · rw [if_neg c15] at H
            exact absurd H (by simp)
        · rw [if_neg c14] at H
          exact absurd H (by simp)
      · rw [if_neg c11] at H
        exact absurd H (by simp)
    · rw [if_neg c8] at H
      exact absurd H (by simp)
  · rw [if_neg c7] at H
    exact absurd H (by simp)

/-- THE ONE PURE STATEMENT of wageofficelaw23_DigestExtends: yours. -/
def wageofficelaw23_DigestExtends.Pure : Prop := ∀ (a0 : ByteArray) (a1 : ByteArray) (a2 : ByteArray), a0.size ≤ 140737488351232 → a1.size ≤ 140737488351232 → a2.size ≤ 140737488351232 → ∃ k, wageofficelaw23_DigestExtends.f k a0 a1 a2 = some true
/-! ### wageofficelaw23_DigestTexts: function 7 -/
def wageofficelaw23_DigestTexts.j0 : Nat → ByteArray → Bool → Option (Bool)
  | 0, _, _ => none
  | k + 1, x2, x7 => if 0 ≤ (mn (x2.size : Int) 40) then (if (mn (x2.size : Int) 40) ≤ (x2.size : Int) then ((digest_Parse.f (x2.extract 0 ((mn (x2.size : Int) 40) : Int).toNat)).bind fun bt165 => (if bt165.2 = 0 then (if x7 = true then ((digest_Text.f bt165.1).bind fun t167 => (some (t167.toList == (x2.extract 0 ((mn (x2.size : Int) 40) : Int).toNat).toList))) else (some false)) else (if x7 = true then (if bt165.2 = 12 then (some (bt165.1 == 0)) else (some false)) else (some false)))) else (none)) else (none)
def wageofficelaw23_DigestTexts.f (k : Nat) (a0 : Int) (a1 : Int) (a2 : ByteArray) : Option (Bool) := (wageofficelaw23_head.f k).bind fun t160 => ((digest_Text.f a0).bind fun t161 => ((digest_Text.f a1).bind fun t162 => ((digest_Parse.f t161).bind fun bt163 => (if t160 = true then (if (t161.size : Int) = 16 then (if bt163.2 = 0 then (if bt163.1 = a0 then (if ((Op.bytesLess t161.toList t162.toList) == (decide (a0 < a1))) = true then (wageofficelaw23_DigestTexts.j0 k a2 ((t161.toList == t162.toList) == (a0 == a1))) else (wageofficelaw23_DigestTexts.j0 k a2 false)) else (wageofficelaw23_DigestTexts.j0 k a2 false)) else (wageofficelaw23_DigestTexts.j0 k a2 false)) else (wageofficelaw23_DigestTexts.j0 k a2 false)) else (wageofficelaw23_DigestTexts.j0 k a2 false)))))
theorem wageofficelaw23_DigestTexts.mono_l : ∀ k, (∀ y0 y1, LeO (wageofficelaw23_DigestTexts.j0 k y0 y1) (wageofficelaw23_DigestTexts.j0 (k + 1) y0 y1))
  | 0 => fun _ _ r h => by simp [wageofficelaw23_DigestTexts.j0] at h
  | k + 1 => by
    have ih0 := wageofficelaw23_DigestTexts.mono_l k
    · intro y0 y1
      unfold wageofficelaw23_DigestTexts.j0
      repeat' first
      | (with_reducible exact ih0 _ _)
      | (with_reducible exact wageofficelaw23_head.mono _)
      | (with_reducible exact LeO.refl _)
      | (with_reducible exact LeO.none _)
      | (with_reducible refine LeO.ite ?_ ?_)
      | (with_reducible refine LeO.bind ?_ (fun _ => ?_))
      | exact ih0 _ _
      | exact wageofficelaw23_head.mono _
      | exact LeO.none _
      | refine LeO.ite ?_ ?_
      | refine LeO.bind ?_ (fun _ => ?_)
theorem wageofficelaw23_DigestTexts.mono : ∀ a0 a1 a2 k, LeO (wageofficelaw23_DigestTexts.f k a0 a1 a2) (wageofficelaw23_DigestTexts.f (k + 1) a0 a1 a2) := by
  intro a0 a1 a2 k
  have ih0 := wageofficelaw23_DigestTexts.mono_l k
  unfold wageofficelaw23_DigestTexts.f
  repeat' first
      | (with_reducible exact ih0 _ _)
      | (with_reducible exact wageofficelaw23_head.mono _)
      | (with_reducible exact LeO.refl _)
      | (with_reducible exact LeO.none _)
      | (with_reducible refine LeO.ite ?_ ?_)
      | (with_reducible refine LeO.bind ?_ (fun _ => ?_))
      | exact ih0 _ _
      | exact wageofficelaw23_head.mono _
      | exact LeO.none _
      | refine LeO.ite ?_ ?_
      | refine LeO.bind ?_ (fun _ => ?_)
set_option maxHeartbeats 8000000 in
set_option maxRecDepth 100000 in
theorem wageofficelaw23_DigestTexts.calls (k : Nat) (a0 : Int) (a1 : Int) (a2 : ByteArray) (r : Bool) (w : World) (h : wageofficelaw23_DigestTexts.f k a0 a1 a2 = some r) (hTHex0 : TabHex w) :
    Calls Tryd.prog 7 #[.int .u64 a0, .int .u64 a1, .string a2] w fun e w' => e = .returned (.bool r) ∧ Below w.heap.size w w' := by
  have hTHex := Aside0.mk hTHex0
  clear hTHex0
  have HB := Aside0.mk (Below.refl w.heap.size w)
  have H : ((wageofficelaw23_head.f k).bind fun t160 => ((digest_Text.f a0).bind fun t161 => ((digest_Text.f a1).bind fun t162 => ((digest_Parse.f t161).bind fun bt163 => (if t160 = true then (if (t161.size : Int) = 16 then (if bt163.2 = 0 then (if bt163.1 = a0 then (if ((Op.bytesLess t161.toList t162.toList) == (decide (a0 < a1))) = true then (wageofficelaw23_DigestTexts.j0 k a2 ((t161.toList == t162.toList) == (a0 == a1))) else (wageofficelaw23_DigestTexts.j0 k a2 false)) else (wageofficelaw23_DigestTexts.j0 k a2 false)) else (wageofficelaw23_DigestTexts.j0 k a2 false)) else (wageofficelaw23_DigestTexts.j0 k a2 false)) else (wageofficelaw23_DigestTexts.j0 k a2 false)))))) = some r := h
  clear h
  replace H := Option.bind_eq_some_iff.mp H
  obtain ⟨t160, A40, H⟩ := H
  replace H : ((digest_Text.f a0).bind fun t161 => ((digest_Text.f a1).bind fun t162 => ((digest_Parse.f t161).bind fun bt163 => (if t160 = true then (if (t161.size : Int) = 16 then (if bt163.2 = 0 then (if bt163.1 = a0 then (if ((Op.bytesLess t161.toList t162.toList) == (decide (a0 < a1))) = true then (wageofficelaw23_DigestTexts.j0 k a2 ((t161.toList == t162.toList) == (a0 == a1))) else (wageofficelaw23_DigestTexts.j0 k a2 false)) else (wageofficelaw23_DigestTexts.j0 k a2 false)) else (wageofficelaw23_DigestTexts.j0 k a2 false)) else (wageofficelaw23_DigestTexts.j0 k a2 false)) else (wageofficelaw23_DigestTexts.j0 k a2 false))))) = some r := H
  have A4 := Aside0.mk A40
  clear A40
  replace H := Option.bind_eq_some_iff.mp H
  obtain ⟨t161, A50, H⟩ := H
  replace H : ((digest_Text.f a1).bind fun t162 => ((digest_Parse.f t161).bind fun bt163 => (if t160 = true then (if (t161.size : Int) = 16 then (if bt163.2 = 0 then (if bt163.1 = a0 then (if ((Op.bytesLess t161.toList t162.toList) == (decide (a0 < a1))) = true then (wageofficelaw23_DigestTexts.j0 k a2 ((t161.toList == t162.toList) == (a0 == a1))) else (wageofficelaw23_DigestTexts.j0 k a2 false)) else (wageofficelaw23_DigestTexts.j0 k a2 false)) else (wageofficelaw23_DigestTexts.j0 k a2 false)) else (wageofficelaw23_DigestTexts.j0 k a2 false)) else (wageofficelaw23_DigestTexts.j0 k a2 false)))) = some r := H
  have A5 := Aside0.mk A50
  clear A50
  replace H := Option.bind_eq_some_iff.mp H
  obtain ⟨t162, A60, H⟩ := H
  replace H : ((digest_Parse.f t161).bind fun bt163 => (if t160 = true then (if (t161.size : Int) = 16 then (if bt163.2 = 0 then (if bt163.1 = a0 then (if ((Op.bytesLess t161.toList t162.toList) == (decide (a0 < a1))) = true then (wageofficelaw23_DigestTexts.j0 k a2 ((t161.toList == t162.toList) == (a0 == a1))) else (wageofficelaw23_DigestTexts.j0 k a2 false)) else (wageofficelaw23_DigestTexts.j0 k a2 false)) else (wageofficelaw23_DigestTexts.j0 k a2 false)) else (wageofficelaw23_DigestTexts.j0 k a2 false)) else (wageofficelaw23_DigestTexts.j0 k a2 false))) = some r := H
  have A6 := Aside0.mk A60
  clear A60
  replace H := Option.bind_eq_some_iff.mp H
  obtain ⟨⟨t163, t164⟩, A70, H⟩ := H
  replace H : (if t160 = true then (if (t161.size : Int) = 16 then (if t164 = 0 then (if t163 = a0 then (if ((Op.bytesLess t161.toList t162.toList) == (decide (a0 < a1))) = true then (wageofficelaw23_DigestTexts.j0 k a2 ((t161.toList == t162.toList) == (a0 == a1))) else (wageofficelaw23_DigestTexts.j0 k a2 false)) else (wageofficelaw23_DigestTexts.j0 k a2 false)) else (wageofficelaw23_DigestTexts.j0 k a2 false)) else (wageofficelaw23_DigestTexts.j0 k a2 false)) else (wageofficelaw23_DigestTexts.j0 k a2 false)) = some r := H
  have A7 := Aside0.mk A70
  clear A70
  have HC8 := Aside0.mk H
  clear H
  go_enter Tryd.func7, Tryd.ntmps7
  go_upto_region 5 with (first | ((with_reducible refine gate_callee (f := 9) rfl ?_); refine goesL_ (some 14) rfl rfl Tryd.func9 (by kernel_rfl) rfl #[] rfl (by (try simp only [List.map_toArray, List.map_cons, List.map_nil]); first | done | rfl | (simp only [List.length_drop, List.length_take]; rfl)) ?_; (with_reducible refine (wageofficelaw23_head.calls k  t160 _ A4.out (TabHex.below hTHex.out (by repeat (first | (with_reducible first | exact HB.out | exact Below.refl _ _ | apply below_alloc | apply pw_below_drewN | apply below_drew1 | apply below_drew) | exact HB.out)))).mono ?_); rintro e w9 ⟨rfl, hb⟩; refine ⟨_, rfl, ?_⟩; have n0_ := Aside0.mk (below_step (by repeat (first | (with_reducible first | exact HB.out | apply below_alloc | apply pw_below_drewN | apply below_drew1) | exact HB.out)) hb); clear HB; have HB := n0_; clear n0_; (try clear hb); (try clear hb2); (try clear hk); (try clear hi)) | ((with_reducible refine gate_callee (f := 16) rfl ?_); refine goesL_ (some 16) rfl rfl Tryd.func16 (by kernel_rfl) rfl #[.int .u64 a0] rfl (by (try simp only [List.map_toArray, List.map_cons, List.map_nil]); first | done | rfl | (simp only [List.length_drop, List.length_take]; rfl)) ?_; (with_reducible refine (digest_Text.calls a0 t161 _ A5.out (TabHex.below hTHex.out (by repeat (first | (with_reducible first | exact HB.out | exact Below.refl _ _ | apply below_alloc | apply pw_below_drewN | apply below_drew1 | apply below_drew) | exact HB.out)))).mono ?_); rintro e w10 ⟨rfl, hb⟩; refine ⟨_, rfl, ?_⟩; have n0_ := Aside0.mk (below_step (by repeat (first | (with_reducible first | exact HB.out | apply below_alloc | apply pw_below_drewN | apply below_drew1) | exact HB.out)) hb); clear HB; have HB := n0_; clear n0_; (try clear hb); (try clear hb2); (try clear hk); (try clear hi)) | ((with_reducible refine gate_callee (f := 16) rfl ?_); refine goesL_ (some 18) rfl rfl Tryd.func16 (by kernel_rfl) rfl #[.int .u64 a1] rfl (by (try simp only [List.map_toArray, List.map_cons, List.map_nil]); first | done | rfl | (simp only [List.length_drop, List.length_take]; rfl)) ?_; (with_reducible refine (digest_Text.calls a1 t162 _ A6.out (TabHex.below hTHex.out (by repeat (first | (with_reducible first | exact HB.out | exact Below.refl _ _ | apply below_alloc | apply pw_below_drewN | apply below_drew1 | apply below_drew) | exact HB.out)))).mono ?_); rintro e w11 ⟨rfl, hb⟩; refine ⟨_, rfl, ?_⟩; have n0_ := Aside0.mk (below_step (by repeat (first | (with_reducible first | exact HB.out | apply below_alloc | apply pw_below_drewN | apply below_drew1) | exact HB.out)) hb); clear HB; have HB := n0_; clear n0_; (try clear hb); (try clear hb2); (try clear hk); (try clear hi)) | ((with_reducible refine gate_callee (f := 10) rfl ?_); refine goesL_ (some 21) rfl rfl Tryd.func10 (by kernel_rfl) rfl #[.string t161] rfl (by (try simp only [List.map_toArray, List.map_cons, List.map_nil]); first | done | rfl | (simp only [List.length_drop, List.length_take]; rfl)) ?_; (with_reducible refine (digest_Parse.calls t161 t163 t164 _ A7.out (TabHex.below hTHex.out (by repeat (first | (with_reducible first | exact HB.out | exact Below.refl _ _ | apply below_alloc | apply pw_below_drewN | apply below_drew1 | apply below_drew) | exact HB.out)))).mono ?_); rintro e w12 ⟨rfl, hb⟩; refine ⟨_, rfl, ?_⟩; have n0_ := Aside0.mk (below_step (by repeat (first | (with_reducible first | exact HB.out | apply below_alloc | apply pw_below_drewN | apply below_drew1) | exact HB.out)) hb); clear HB; have HB := n0_; clear n0_; (try clear hb); (try clear hb2); (try clear hk); (try clear hi)))
  (try simp only [Act.put, List.setIfInBounds_toArray, List.set_cons_zero, List.set_cons_succ])
  go_cut [7] (fun v7 wc => ∃ (kq : Nat) (x7_7 : Bool), v7 = .bool x7_7 ∧ Aside0 (wageofficelaw23_DigestTexts.j0 kq a2 x7_7 = some r) ∧ Aside0 (kq ≤ k) ∧ Aside0 (Below w.heap.size w wc))
  case first =>
    have H := HC8.out
    clear HC8
    by_cases c13 : t160 = true
    · subst c13
      have H1 : (if (t161.size : Int) = 16 then (if t164 = 0 then (if t163 = a0 then (if ((Op.bytesLess t161.toList t162.toList) == (decide (a0 < a1))) = true then (wageofficelaw23_DigestTexts.j0 k a2 ((t161.toList == t162.toList) == (a0 == a1))) else (wageofficelaw23_DigestTexts.j0 k a2 false)) else (wageofficelaw23_DigestTexts.j0 k a2 false)) else (wageofficelaw23_DigestTexts.j0 k a2 false)) else (wageofficelaw23_DigestTexts.j0 k a2 false)) = some r := by rw [if_pos rfl] at H; exact H
      clear H
      have H := H1
      clear H1
      by_cases c14 : (t161.size : Int) = 16
      · rw [if_pos c14] at H
        have c14b0 : ((t161.size : Int) == 16) = true := beq_iff_eq.mpr c14
        have c14b1 : ((t161.size : Int) != 16) = false := bne_eq_false_iff_eq.mpr c14
        clear c14
        (first | rw [c14b0] | (simp only [i64_w, i32_w]; rw [c14b0]) | skip)
        by_cases c15 : t164 = 0
        · rw [if_pos c15] at H
          have c15b0 : (t164 == 0) = true := beq_iff_eq.mpr c15
          have c15b1 : (t164 != 0) = false := bne_eq_false_iff_eq.mpr c15
          clear c15
          by_cases c16 : t163 = a0
          · rw [if_pos c16] at H
            have c16b0 : (t163 == a0) = true := beq_iff_eq.mpr c16
            have c16b1 : (t163 != a0) = false := bne_eq_false_iff_eq.mpr c16
            clear c16
            by_cases c17 : ((Op.bytesLess t161.toList t162.toList) == (decide (a0 < a1))) = true
            · rw [if_pos c17] at H
              have c17b0 : ((Op.bytesLess t161.toList t162.toList) == (decide (a0 < a1))) = true := c17
              (try (have c17b1 : decide ((Op.bytesLess t161.toList t162.toList) = (decide (a0 < a1))) = true := by simpa using c17))
              (try (have c17b2 : ((Op.bytesLess t161.toList t162.toList) == (decide (a0 < a1))) = true := by simpa using c17))
              clear c17
              have H' := Aside0.mk H
              clear H
              go_wp2
              go_meet
              case rel => exact ⟨_, (((t161.toList == t162.toList) == (a0 == a1))), (by first | rfl | (simp; done) | (simp [*]; done)), H', ⟨by first | omega | exact Nat.le_refl _⟩, ⟨by repeat (first | (with_reducible first | exact HB.out | apply below_alloc | apply pw_below_drewN | apply below_drew1) | exact HB.out)⟩⟩
            · rw [if_neg c17] at H
              have c17b0 : ((Op.bytesLess t161.toList t162.toList) == (decide (a0 < a1))) = false := by simpa using c17
              (try (have c17b1 : decide ((Op.bytesLess t161.toList t162.toList) = (decide (a0 < a1))) = false := by simpa using c17))
              (try (have c17b2 : ((Op.bytesLess t161.toList t162.toList) == (decide (a0 < a1))) = false := by simpa using c17))
              (try (have c17b3 : ¬ ((Op.bytesLess t161.toList t162.toList) = (decide (a0 < a1))) := by simpa using c17))
              clear c17
              have H' := Aside0.mk H
              clear H
              go_wp2
              go_meet
              case rel => exact ⟨_, (false), (by first | rfl | (simp; done) | (simp [*]; done)), H', ⟨by first | omega | exact Nat.le_refl _⟩, ⟨by repeat (first | (with_reducible first | exact HB.out | apply below_alloc | apply pw_below_drewN | apply below_drew1) | exact HB.out)⟩⟩
          · rw [if_neg c16] at H
            have c16b0 : (t163 == a0) = false := beq_eq_false_iff_ne.mpr c16
            have c16b1 : (t163 != a0) = true := bne_iff_ne.mpr c16
            have H' := Aside0.mk H
            clear H
            go_wp2
            go_meet
            case rel => exact ⟨_, (false), (by first | rfl | (simp; done) | (simp [*]; done)), H', ⟨by first | omega | exact Nat.le_refl _⟩, ⟨by repeat (first | (with_reducible first | exact HB.out | apply below_alloc | apply pw_below_drewN | apply below_drew1) | exact HB.out)⟩⟩
        · rw [if_neg c15] at H
          have c15b0 : (t164 == 0) = false := beq_eq_false_iff_ne.mpr c15
          have c15b1 : (t164 != 0) = true := bne_iff_ne.mpr c15
          have H' := Aside0.mk H
          clear H
          go_wp2
          go_meet
          case rel => exact ⟨_, (false), (by first | rfl | (simp; done) | (simp [*]; done)), H', ⟨by first | omega | exact Nat.le_refl _⟩, ⟨by repeat (first | (with_reducible first | exact HB.out | apply below_alloc | apply pw_below_drewN | apply below_drew1) | exact HB.out)⟩⟩
      · rw [if_neg c14] at H
        have c14b0 : ((t161.size : Int) == 16) = false := beq_eq_false_iff_ne.mpr c14
        have c14b1 : ((t161.size : Int) != 16) = true := bne_iff_ne.mpr c14
        (first | rw [c14b0] | (simp only [i64_w, i32_w]; rw [c14b0]) | skip)
        have H' := Aside0.mk H
        clear H
        go_wp2
        go_meet
        case rel => exact ⟨_, (false), (by first | rfl | (simp; done) | (simp [*]; done)), H', ⟨by first | omega | exact Nat.le_refl _⟩, ⟨by repeat (first | (with_reducible first | exact HB.out | apply below_alloc | apply pw_below_drewN | apply below_drew1) | exact HB.out)⟩⟩
    · replace c13 := Bool.eq_false_iff.mpr c13
      subst c13
      have H1 : (wageofficelaw23_DigestTexts.j0 k a2 false) = some r := by rw [if_neg (show ¬ (false = true) by decide)] at H; exact H
      clear H
      have H := H1
      clear H1
      have H' := Aside0.mk H
      clear H
      go_wp2
      go_meet
      case rel => exact ⟨_, (false), (by first | rfl | (simp; done) | (simp [*]; done)), H', ⟨by first | omega | exact Nat.le_refl _⟩, ⟨by repeat (first | (with_reducible first | exact HB.out | apply below_alloc | apply pw_below_drewN | apply below_drew1) | exact HB.out)⟩⟩
  case rest =>
    clear HC8
    try clear c1
    try clear p2
    try clear c7
    try clear c9
    try clear c10
    try clear c13
    try clear c14
    try clear c14b0
    try clear c14b1
    try clear c15
    try clear c15b0
    try clear c15b1
    try clear c16
    try clear c16b0
    try clear c16b1
    try clear c17
    try clear c17b0
    try clear c17b1
    try clear c17b2
    obtain ⟨kq, x7_7, rfl, HA, HJ7, HB⟩ := hcut
    cases kq with
    | zero => exact absurd HA.out (by simp [wageofficelaw23_DigestTexts.j0])
    | succ kj7 =>
      have H := HA.out
      clear HA
      simp only [wageofficelaw23_DigestTexts.j0] at H
      obtain ⟨ji18, hji18⟩ : ∃ j_ : Int, (mn (a2.size : Int) 40) = j_ := ⟨_, rfl⟩
      replace H : (if 0 ≤ (ji18) then (if (ji18) ≤ (a2.size : Int) then ((digest_Parse.f (a2.extract 0 ((ji18) : Int).toNat)).bind fun bt165 => (if bt165.2 = 0 then (if x7_7 = true then ((digest_Text.f bt165.1).bind fun t167 => (some (t167.toList == (a2.extract 0 ((ji18) : Int).toNat).toList))) else (some false)) else (if x7_7 = true then (if bt165.2 = 12 then (some (bt165.1 == 0)) else (some false)) else (some false)))) else (none)) else (none)) = some r := by first | (rw [hji18] at H; exact H) | (simp only [hji18] at H ⊢; exact H)
      have hji18_ : (if 40 < (a2.size : Int) then 40 else (a2.size : Int)) = ji18 := hji18
      by_cases c19 : 0 ≤ (ji18)
      · rw [if_pos c19] at H
        have c19b0 := eq_true c19
        have c19b1 : decide (0 ≤ (ji18)) = true := decide_eq_true c19
        clear c19
        by_cases c20 : (ji18) ≤ (a2.size : Int)
        · rw [if_pos c20] at H
          have c20b0 := eq_true c20
          have c20b1 : decide ((ji18) ≤ (a2.size : Int)) = true := decide_eq_true c20
          clear c20
          obtain ⟨js21, hjs21⟩ : ∃ s_ : ByteArray, (a2.extract 0 ((ji18) : Int).toNat) = s_ := ⟨_, rfl⟩
          replace H : ((digest_Parse.f js21).bind fun bt165 => (if bt165.2 = 0 then (if x7_7 = true then ((digest_Text.f bt165.1).bind fun t167 => (some (t167.toList == js21.toList))) else (some false)) else (if x7_7 = true then (if bt165.2 = 12 then (some (bt165.1 == 0)) else (some false)) else (some false)))) = some r := by first | (rw [hjs21] at H; exact H) | (simp only [hjs21] at H ⊢; exact H)
          replace H := Option.bind_eq_some_iff.mp H
          obtain ⟨⟨t165, t166⟩, A220, H⟩ := H
          replace H : (if t166 = 0 then (if x7_7 = true then ((digest_Text.f t165).bind fun t167 => (some (t167.toList == js21.toList))) else (some false)) else (if x7_7 = true then (if t166 = 12 then (some (t165 == 0)) else (some false)) else (some false))) = some r := H
          have A22 := Aside0.mk A220
          clear A220
          by_cases c23 : t166 = 0
          · rw [if_pos c23] at H
            have c23b0 : (t166 == 0) = true := beq_iff_eq.mpr c23
            have c23b1 : (t166 != 0) = false := bne_eq_false_iff_eq.mpr c23
            clear c23
            by_cases c24 : x7_7 = true
            · subst c24
              have H1 : ((digest_Text.f t165).bind fun t167 => (some (t167.toList == js21.toList))) = some r := by rw [if_pos rfl] at H; exact H
              clear H
              have H := H1
              clear H1
              replace H := Option.bind_eq_some_iff.mp H
              obtain ⟨t167, A250, H⟩ := H
              replace H : (some (t167.toList == js21.toList)) = some r := H
              have A25 := Aside0.mk A250
              clear A250
              obtain rfl := Option.some.inj H
              go_wp2_with (first | ((with_reducible refine gate_callee (f := 10) rfl ?_); refine goesL_ (some 64) rfl rfl Tryd.func10 (by kernel_rfl) rfl #[.string js21] rfl (by (try simp only [List.map_toArray, List.map_cons, List.map_nil]); first | done | rfl | (simp only [List.length_drop, List.length_take]; rfl)) ?_; (with_reducible refine (digest_Parse.calls js21 t165 t166 _ A22.out (TabHex.below hTHex.out (by repeat (first | (with_reducible first | exact HB.out | exact Below.refl _ _ | apply below_alloc | apply pw_below_drewN | apply below_drew1 | apply below_drew) | exact HB.out)))).mono ?_); rintro e w26 ⟨rfl, hb⟩; refine ⟨_, rfl, ?_⟩; have n0_ := Aside0.mk (below_step (by repeat (first | (with_reducible first | exact HB.out | apply below_alloc | apply pw_below_drewN | apply below_drew1) | exact HB.out)) hb); clear HB; have HB := n0_; clear n0_; (try clear hb); (try clear hb2); (try clear hk); (try clear hi)) | (go_at_call 16; (with_reducible refine (digest_Text.calls t165 t167 _ A25.out (TabHex.below hTHex.out (by repeat (first | (with_reducible first | exact HB.out | exact Below.refl _ _ | apply below_alloc | apply pw_below_drewN | apply below_drew1 | apply below_drew) | exact HB.out)))).mono ?_); rintro e w27 ⟨rfl, hb⟩; have n0_ := Aside0.mk (below_step (by repeat (first | (with_reducible first | exact HB.out | apply below_alloc | apply pw_below_drewN | apply below_drew1) | exact HB.out)) hb); clear HB; have HB := n0_; clear n0_; (try clear hb); (try clear hb2); (try clear hk); (try clear hi)))
              go_ret
              exact ⟨by first | rfl | (simp [errW_none, errW_some] <;> rfl) | (simp only [← hji18, ← hjs21]; first | rfl | (simp [errW_none, errW_some] <;> rfl)) | (simp [*, errW_none, errW_some] <;> rfl), by repeat (first | (with_reducible first | exact HB.out | apply below_alloc | apply pw_below_drewN | apply below_drew1) | exact HB.out)⟩
            · replace c24 := Bool.eq_false_iff.mpr c24
              subst c24
              have H1 : (some false) = some r := by rw [if_neg (show ¬ (false = true) by decide)] at H; exact H
              clear H
              have H := H1
              clear H1
              obtain rfl := Option.some.inj H
              go_wp2_with (first | ((with_reducible refine gate_callee (f := 10) rfl ?_); refine goesL_ (some 64) rfl rfl Tryd.func10 (by kernel_rfl) rfl #[.string js21] rfl (by (try simp only [List.map_toArray, List.map_cons, List.map_nil]); first | done | rfl | (simp only [List.length_drop, List.length_take]; rfl)) ?_; (with_reducible refine (digest_Parse.calls js21 t165 t166 _ A22.out (TabHex.below hTHex.out (by repeat (first | (with_reducible first | exact HB.out | exact Below.refl _ _ | apply below_alloc | apply pw_below_drewN | apply below_drew1 | apply below_drew) | exact HB.out)))).mono ?_); rintro e w28 ⟨rfl, hb⟩; refine ⟨_, rfl, ?_⟩; have n0_ := Aside0.mk (below_step (by repeat (first | (with_reducible first | exact HB.out | apply below_alloc | apply pw_below_drewN | apply below_drew1) | exact HB.out)) hb); clear HB; have HB := n0_; clear n0_; (try clear hb); (try clear hb2); (try clear hk); (try clear hi)))
              go_ret
              exact ⟨by first | rfl | (simp [errW_none, errW_some] <;> rfl) | (simp only [← hji18, ← hjs21]; first | rfl | (simp [errW_none, errW_some] <;> rfl)) | (simp [*, errW_none, errW_some] <;> rfl), by repeat (first | (with_reducible first | exact HB.out | apply below_alloc | apply pw_below_drewN | apply below_drew1) | exact HB.out)⟩
          · rw [if_neg c23] at H
            have c23b0 : (t166 == 0) = false := beq_eq_false_iff_ne.mpr c23
            have c23b1 : (t166 != 0) = true := bne_iff_ne.mpr c23
            by_cases c29 : x7_7 = true
            · subst c29
              have H1 : (if t166 = 12 then (some (t165 == 0)) else (some false)) = some r := by rw [if_pos rfl] at H; exact H
              clear H
              have H := H1
              clear H1
              by_cases c30 : t166 = 12
              · rw [if_pos c30] at H
                have c30b0 : (t166 == 12) = true := beq_iff_eq.mpr c30
                have c30b1 : (t166 != 12) = false := bne_eq_false_iff_eq.mpr c30
                clear c30
                obtain rfl := Option.some.inj H
                go_wp2_with (first | ((with_reducible refine gate_callee (f := 10) rfl ?_); refine goesL_ (some 64) rfl rfl Tryd.func10 (by kernel_rfl) rfl #[.string js21] rfl (by (try simp only [List.map_toArray, List.map_cons, List.map_nil]); first | done | rfl | (simp only [List.length_drop, List.length_take]; rfl)) ?_; (with_reducible refine (digest_Parse.calls js21 t165 t166 _ A22.out (TabHex.below hTHex.out (by repeat (first | (with_reducible first | exact HB.out | exact Below.refl _ _ | apply below_alloc | apply pw_below_drewN | apply below_drew1 | apply below_drew) | exact HB.out)))).mono ?_); rintro e w31 ⟨rfl, hb⟩; refine ⟨_, rfl, ?_⟩; have n0_ := Aside0.mk (below_step (by repeat (first | (with_reducible first | exact HB.out | apply below_alloc | apply pw_below_drewN | apply below_drew1) | exact HB.out)) hb); clear HB; have HB := n0_; clear n0_; (try clear hb); (try clear hb2); (try clear hk); (try clear hi)))
                go_ret
                exact ⟨by first | rfl | (simp [errW_none, errW_some] <;> rfl) | (simp only [← hji18, ← hjs21]; first | rfl | (simp [errW_none, errW_some] <;> rfl)) | (simp [*, errW_none, errW_some] <;> rfl), by repeat (first | (with_reducible first | exact HB.out | apply below_alloc | apply pw_below_drewN | apply below_drew1) | exact HB.out)⟩
              · rw [if_neg c30] at H
                have c30b0 : (t166 == 12) = false := beq_eq_false_iff_ne.mpr c30
                have c30b1 : (t166 != 12) = true := bne_iff_ne.mpr c30
                obtain rfl := Option.some.inj H
                go_wp2_with (first | ((with_reducible refine gate_callee (f := 10) rfl ?_); refine goesL_ (some 64) rfl rfl Tryd.func10 (by kernel_rfl) rfl #[.string js21] rfl (by (try simp only [List.map_toArray, List.map_cons, List.map_nil]); first | done | rfl | (simp only [List.length_drop, List.length_take]; rfl)) ?_; (with_reducible refine (digest_Parse.calls js21 t165 t166 _ A22.out (TabHex.below hTHex.out (by repeat (first | (with_reducible first | exact HB.out | exact Below.refl _ _ | apply below_alloc | apply pw_below_drewN | apply below_drew1 | apply below_drew) | exact HB.out)))).mono ?_); rintro e w32 ⟨rfl, hb⟩; refine ⟨_, rfl, ?_⟩; have n0_ := Aside0.mk (below_step (by repeat (first | (with_reducible first | exact HB.out | apply below_alloc | apply pw_below_drewN | apply below_drew1) | exact HB.out)) hb); clear HB; have HB := n0_; clear n0_; (try clear hb); (try clear hb2); (try clear hk); (try clear hi)))
                go_ret
                exact ⟨by first | rfl | (simp [errW_none, errW_some] <;> rfl) | (simp only [← hji18, ← hjs21]; first | rfl | (simp [errW_none, errW_some] <;> rfl)) | (simp [*, errW_none, errW_some] <;> rfl), by repeat (first | (with_reducible first | exact HB.out | apply below_alloc | apply pw_below_drewN | apply below_drew1) | exact HB.out)⟩
            · replace c29 := Bool.eq_false_iff.mpr c29
              subst c29
              have H1 : (some false) = some r := by rw [if_neg (show ¬ (false = true) by decide)] at H; exact H
              clear H
              have H := H1
              clear H1
              obtain rfl := Option.some.inj H
              go_wp2_with (first | ((with_reducible refine gate_callee (f := 10) rfl ?_); refine goesL_ (some 64) rfl rfl Tryd.func10 (by kernel_rfl) rfl #[.string js21] rfl (by (try simp only [List.map_toArray, List.map_cons, List.map_nil]); first | done | rfl | (simp only [List.length_drop, List.length_take]; rfl)) ?_; (with_reducible refine (digest_Parse.calls js21 t165 t166 _ A22.out (TabHex.below hTHex.out (by repeat (first | (with_reducible first | exact HB.out | exact Below.refl _ _ | apply below_alloc | apply pw_below_drewN | apply below_drew1 | apply below_drew) | exact HB.out)))).mono ?_); rintro e w33 ⟨rfl, hb⟩; refine ⟨_, rfl, ?_⟩; have n0_ := Aside0.mk (below_step (by repeat (first | (with_reducible first | exact HB.out | apply below_alloc | apply pw_below_drewN | apply below_drew1) | exact HB.out)) hb); clear HB; have HB := n0_; clear n0_; (try clear hb); (try clear hb2); (try clear hk); (try clear hi)))
              go_ret
              exact ⟨by first | rfl | (simp [errW_none, errW_some] <;> rfl) | (simp only [← hji18, ← hjs21]; first | rfl | (simp [errW_none, errW_some] <;> rfl)) | (simp [*, errW_none, errW_some] <;> rfl), by repeat (first | (with_reducible first | exact HB.out | apply below_alloc | apply pw_below_drewN | apply below_drew1) | exact HB.out)⟩
        · rw [if_neg c20] at H
          exact absurd H (by simp)
      · rw [if_neg c19] at H
        exact absurd H (by simp)

/-- THE ONE PURE STATEMENT of wageofficelaw23_DigestTexts: yours. -/
def wageofficelaw23_DigestTexts.Pure : Prop := ∀ (a0 : Int) (a1 : Int) (a2 : ByteArray), (Lit.int .u64 a0).wf = true → (Lit.int .u64 a1).wf = true → a2.size ≤ 140737488351232 → ∃ k, wageofficelaw23_DigestTexts.f k a0 a1 a2 = some true
end Go.Proofs.YtjjfbcpfmdbblaaDoor.PAll
