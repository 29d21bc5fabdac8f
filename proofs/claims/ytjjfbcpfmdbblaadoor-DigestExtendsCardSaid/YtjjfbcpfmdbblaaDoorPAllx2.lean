-- Written by myprint.py over the kit's print.py (a printed text of this session's own make).
import Derived.Test.YtjjfbcpfmdbblaaDoorPAllx0
import Derived.Test.YtjjfbcpfmdbblaaDoorPAllx1
namespace Go.Proofs.YtjjfbcpfmdbblaaDoor.PAll
open Go.Proofs.YtjjfbcpfmdbblaaDoor.Stub Go.Proofs.YtjjfbcpfmdbblaaDoor.DigD
open Go.RowKit Go.Proofs.YtjjfbcpfmdbblaaDoorW.PrintWords Go.Proofs.YtjjfbcpfmdbblaaDoorW.PrintLast Go.Proofs.YtjjfbcpfmdbblaaDoorW.PrintMore
attribute [local go_sem] max2_int min2_int max_two min_two max_three min_three max_four min_four   -- for this text's walks alone
set_option linter.unusedVariables false
set_option linter.unusedSimpArgs false

/-! ### wageofficeref23_Eight: function 24 -/
def wageofficeref23_Eight.l0 : Nat → Int → ByteArray → Int → Option (ByteArray)
  | 0, _, _, _ => none
  | k + 1, x0, x3, x4 => if x4 < 8 then ((some (([(Int.tmod x0 256) % 256] : List Int) : List Int)).bind fun y116 => (if (strOfNums y116).size + x3.size ≤ 9223372036854775807 then (wageofficeref23_Eight.l0 k (IntKind.u64.wrap (Int.tdiv x0 256)) ((strOfNums y116) ++ x3) (wrap64 (x4 + 1))) else (none))) else (some x3)
def wageofficeref23_Eight.f (k : Nat) (a0 : Int) : Option (ByteArray) := wageofficeref23_Eight.l0 k a0 (⟨#[]⟩ : ByteArray) 0
theorem wageofficeref23_Eight.mono_l : ∀ k, (∀ y0 y1 y2, LeO (wageofficeref23_Eight.l0 k y0 y1 y2) (wageofficeref23_Eight.l0 (k + 1) y0 y1 y2))
  | 0 => fun _ _ _ r h => by simp [wageofficeref23_Eight.l0] at h
  | k + 1 => by
    have ih0 := wageofficeref23_Eight.mono_l k
    · intro y0 y1 y2
      unfold wageofficeref23_Eight.l0
      repeat' first
      | (with_reducible exact ih0 _ _ _)
      | (with_reducible exact LeO.refl _)
      | (with_reducible exact LeO.none _)
      | (with_reducible refine LeO.ite ?_ ?_)
      | (with_reducible refine LeO.bind ?_ (fun _ => ?_))
      | exact ih0 _ _ _
      | exact LeO.none _
      | refine LeO.ite ?_ ?_
      | refine LeO.bind ?_ (fun _ => ?_)
theorem wageofficeref23_Eight.mono : ∀ a0 k, LeO (wageofficeref23_Eight.f k a0) (wageofficeref23_Eight.f (k + 1) a0) := by
  intro a0 k
  have ih0 := wageofficeref23_Eight.mono_l k
  unfold wageofficeref23_Eight.f
  repeat' first
      | (with_reducible exact ih0 _ _ _)
      | (with_reducible exact LeO.refl _)
      | (with_reducible exact LeO.none _)
      | (with_reducible refine LeO.ite ?_ ?_)
      | (with_reducible refine LeO.bind ?_ (fun _ => ?_))
      | exact ih0 _ _ _
      | exact LeO.none _
      | refine LeO.ite ?_ ?_
      | refine LeO.bind ?_ (fun _ => ?_)
set_option maxHeartbeats 8000000 in
set_option maxRecDepth 100000 in
theorem wageofficeref23_Eight.calls (k : Nat) (a0 : Int) (r : ByteArray) (w : World) (h : wageofficeref23_Eight.f k a0 = some r) :
    Calls Tryd.prog 24 #[.int .u64 a0] w fun e w' => e = .returned (.string r) ∧ Below w.heap.size w w' := by
  have HB := Aside0.mk (Below.refl w.heap.size w)
  have H : (wageofficeref23_Eight.l0 k a0 (⟨#[]⟩ : ByteArray) 0) = some r := h
  clear h
  have H' := Aside0.mk H
  clear H
  go_enter Tryd.func24, Tryd.ntmps24
  go_wp2
  go_loopg [0, 3, 4] k (fun kq v0 v3 v4 w' => ∃ (x0_1 : Int) (x3_1 : ByteArray) (x4_1 : Int), v0 = .int .u64 x0_1 ∧ v3 = .string x3_1 ∧ v4 = .int .i64 x4_1 ∧ Aside0 (wageofficeref23_Eight.l0 kq x0_1 x3_1 x4_1 = some r) ∧ Aside0 (kq ≤ k) ∧ Aside0 (Below w.heap.size w w'))
  case atStart => exact ⟨(a0), ((⟨#[]⟩ : ByteArray)), (0), (by first | rfl | (simp; done) | (simp [*]; done)), (by first | rfl | (simp; done) | (simp [*]; done)), (by first | rfl | (simp; done) | (simp [*]; done)), H', ⟨Nat.le_refl _⟩, ⟨by repeat (first | (with_reducible first | exact HB.out | apply below_alloc | apply pw_below_drewN | apply below_drew1) | exact HB.out)⟩⟩
  case round =>
    clear H'
    obtain ⟨x0_1, x3_1, x4_1, rfl, rfl, rfl, HA, HK1, HB⟩ := hrel
    cases gk with
    | zero => exact absurd HA.out (by simp [wageofficeref23_Eight.l0])
    | succ k1 =>
      have H := HA.out
      clear HA
      simp only [wageofficeref23_Eight.l0] at H
      by_cases c2 : x4_1 < 8
      · rw [if_pos c2] at H
        have c2b0 : decide (x4_1 < 8) = true := decide_eq_true c2
        clear c2
        obtain ⟨y116, hy116⟩ : ∃ y_ : List Int, y_ = (([(Int.tmod x0_1 256) % 256] : List Int)) := ⟨_, rfl⟩
        replace H : (if (strOfNums y116).size + x3_1.size ≤ 9223372036854775807 then (wageofficeref23_Eight.l0 k1 (IntKind.u64.wrap (Int.tdiv x0_1 256)) ((strOfNums y116) ++ x3_1) (wrap64 (x4_1 + 1))) else (none)) = some r := by first | (rw [hy116]; with_reducible exact H) | (have H2_ := (Option.bind_some _ _).symm.trans H; rw [hy116]; with_reducible exact H2_) | (have H2_ := (Option.bind_some _ _).symm.trans H; with_reducible exact H2_) | with_reducible exact H | (rw [hy116]; exact H) | exact H
        have Ny116 := Aside0.mk hy116
        clear hy116
        by_cases c3 : (strOfNums y116).size + x3_1.size ≤ 9223372036854775807
        · rw [if_pos c3] at H
          have c3b0 := eq_true c3
          have c3b1 : decide ((strOfNums y116).size + x3_1.size ≤ 9223372036854775807) = true := decide_eq_true c3
          try have c3b2 : (9223372036854775807 < (strOfNums y116).size + x3_1.size) = False := eq_false (Nat.not_lt.2 c3)
          have H' := Aside0.mk H
          clear H
          go_wp2_with (first | ((with_reducible refine gate_dst (N := 12) rfl ?_); refine Kd.R_lit (Kd.int .u8) _ 5 ?hg (N := 12) ?hd (xs := ([(Int.tmod x0_1 256) % 256] : List Int)) (inner := [.int .u8 ((Int.tmod x0_1 256) % 256)]) (ok := fun _ => True) (okp := fun _ => True) ?hr ?hp (fun _ hk => hk) trivial (Below.refl _ _) (Nat.le_refl _) (by simp) ?_; (case hd => rfl); (case hg => rfl); (case hr => first | (go_simp; done) | (go_simp; rfl)); (case hp => exact (Reps.one (show Kd.M (Kd.int .u8) _ _ _ ((Int.tmod x0_1 256) % 256) [.int .u8 ((Int.tmod x0_1 256) % 256)] from rfl) (Reps.none _ _))); intro v117 w4 ho5 hb hg_ hnew_; clear hg_ hnew_; (first | rw [← Ny116.out] at ho5 | (simp only [Int.reduceToNat] at ho5; rw [← Ny116.out] at ho5)); have n0_ := Aside0.mk (Kd.R_lower ho5 (below_size (by repeat (first | (with_reducible first | exact HB.out | apply below_alloc | apply pw_below_drewN | apply below_drew1) | exact HB.out)))); have n1_ := Aside0.mk (below_step (by repeat (first | (with_reducible first | exact HB.out | apply below_alloc | apply pw_below_drewN | apply below_drew1) | exact HB.out)) hb); clear HB; have HO118 := n0_; have HB := n1_; clear n0_ n1_; clear hb ho5; have hcv6 := own_string (P := Tryd.prog) Tryd.underlying33 Tryd.underlying5 Tryd.underlying9 (Kd.own_of_R HO118.out)))
          go_roundg k1
          case measure => have := HK1.out; omega
          case rel => exact ⟨(IntKind.u64.wrap (Int.tdiv x0_1 256)), ((strOfNums y116) ++ x3_1), (wrap64 (x4_1 + 1)), (by first | rfl | (simp; done) | (simp [*]; done)), (by first | rfl | (simp; done) | (simp [*]; done)), (by first | rfl | (simp; done) | (simp [*]; done)), H', ⟨by have := HK1.out; omega⟩, ⟨by repeat (first | (with_reducible first | exact HB.out | apply below_alloc | apply pw_below_drewN | apply below_drew1) | exact HB.out)⟩⟩
        · rw [if_neg c3] at H
          exact absurd H (by simp)
      · rw [if_neg c2] at H
        have c2b0 : decide (x4_1 < 8) = false := decide_eq_false c2
        clear c2
        obtain rfl := Option.some.inj H
        go_wp2
        go_ret
        exact ⟨by first | rfl | (simp [errW_none, errW_some] <;> rfl) | (simp [*, errW_none, errW_some] <;> rfl), by repeat (first | (with_reducible first | exact HB.out | apply below_alloc | apply pw_below_drewN | apply below_drew1) | exact HB.out)⟩

/-! ### wageofficeref23_Pair: function 15 -/
def wageofficeref23_Pair.f (k : Nat) (a0 : Int) (a1 : Int) : Option (Int) := (wageofficeref23_Eight.f k a0).bind fun t119 => (if 1 + t119.size ≤ 9223372036854775807 then ((wageofficeref23_Eight.f k a1).bind fun t120 => (if 1 + t119.size + t120.size ≤ 9223372036854775807 then ((wageofficeref23_Sum.f k (((⟨#[1]⟩ : ByteArray) ++ t119) ++ t120)).bind fun t121 => (some t121)) else (none))) else (none))
theorem wageofficeref23_Pair.mono : ∀ a0 a1 k, LeO (wageofficeref23_Pair.f k a0 a1) (wageofficeref23_Pair.f (k + 1) a0 a1) := by
  intro a0 a1 k
  unfold wageofficeref23_Pair.f
  repeat' first
      | (with_reducible exact wageofficeref23_Eight.mono _ _)
      | (with_reducible exact wageofficeref23_Sum.mono _ _)
      | (with_reducible exact LeO.refl _)
      | (with_reducible exact LeO.none _)
      | (with_reducible refine LeO.ite ?_ ?_)
      | (with_reducible refine LeO.bind ?_ (fun _ => ?_))
      | exact wageofficeref23_Eight.mono _ _
      | exact wageofficeref23_Sum.mono _ _
      | exact LeO.none _
      | refine LeO.ite ?_ ?_
      | refine LeO.bind ?_ (fun _ => ?_)
set_option maxHeartbeats 8000000 in
set_option maxRecDepth 100000 in
theorem wageofficeref23_Pair.calls (k : Nat) (a0 : Int) (a1 : Int) (r : Int) (w : World) (h : wageofficeref23_Pair.f k a0 a1 = some r) :
    Calls Tryd.prog 15 #[.int .u64 a0, .int .u64 a1] w fun e w' => e = .returned (.int .u64 r) ∧ Below w.heap.size w w' := by
  have HB := Aside0.mk (Below.refl w.heap.size w)
  have H : ((wageofficeref23_Eight.f k a0).bind fun t119 => (if 1 + t119.size ≤ 9223372036854775807 then ((wageofficeref23_Eight.f k a1).bind fun t120 => (if 1 + t119.size + t120.size ≤ 9223372036854775807 then ((wageofficeref23_Sum.f k (((⟨#[1]⟩ : ByteArray) ++ t119) ++ t120)).bind fun t121 => (some t121)) else (none))) else (none))) = some r := h
  clear h
  replace H := Option.bind_eq_some_iff.mp H
  obtain ⟨t119, A30, H⟩ := H
  replace H : (if 1 + t119.size ≤ 9223372036854775807 then ((wageofficeref23_Eight.f k a1).bind fun t120 => (if 1 + t119.size + t120.size ≤ 9223372036854775807 then ((wageofficeref23_Sum.f k (((⟨#[1]⟩ : ByteArray) ++ t119) ++ t120)).bind fun t121 => (some t121)) else (none))) else (none)) = some r := H
  have A3 := Aside0.mk A30
  clear A30
  by_cases c4 : 1 + t119.size ≤ 9223372036854775807
  · rw [if_pos c4] at H
    have c4b0 := eq_true c4
    have c4b1 : decide (1 + t119.size ≤ 9223372036854775807) = true := decide_eq_true c4
    try have c4b2 : (9223372036854775807 < 1 + t119.size) = False := eq_false (Nat.not_lt.2 c4)
    replace H := Option.bind_eq_some_iff.mp H
    obtain ⟨t120, A50, H⟩ := H
    replace H : (if 1 + t119.size + t120.size ≤ 9223372036854775807 then ((wageofficeref23_Sum.f k (((⟨#[1]⟩ : ByteArray) ++ t119) ++ t120)).bind fun t121 => (some t121)) else (none)) = some r := H
    have A5 := Aside0.mk A50
    clear A50
    by_cases c6 : 1 + t119.size + t120.size ≤ 9223372036854775807
    · rw [if_pos c6] at H
      have c6b0 := eq_true c6
      have c6b1 : decide (1 + t119.size + t120.size ≤ 9223372036854775807) = true := decide_eq_true c6
      try have c6b2 : (9223372036854775807 < 1 + t119.size + t120.size) = False := eq_false (Nat.not_lt.2 c6)
      replace H := Option.bind_eq_some_iff.mp H
      obtain ⟨t121, A70, H⟩ := H
      replace H : (some t121) = some r := H
      have A7 := Aside0.mk A70
      clear A70
      obtain rfl := Option.some.inj H
      go_enter Tryd.func15, Tryd.ntmps15
      go_wp2_with (first | ((with_reducible refine gate_callee (f := 24) rfl ?_); refine goesL_ (some 6) rfl rfl Tryd.func24 (by kernel_rfl) rfl #[.int .u64 a0] rfl (by (try simp only [List.map_toArray, List.map_cons, List.map_nil]); first | done | rfl | (simp only [List.length_drop, List.length_take]; rfl)) ?_; (with_reducible refine (wageofficeref23_Eight.calls k a0 t119 _ A3.out).mono ?_); rintro e w8 ⟨rfl, hb⟩; refine ⟨_, rfl, ?_⟩; have n0_ := Aside0.mk (below_step (by repeat (first | (with_reducible first | exact HB.out | apply below_alloc | apply pw_below_drewN | apply below_drew1) | exact HB.out)) hb); clear HB; have HB := n0_; clear n0_; (try clear hb); (try clear hb2); (try clear hk); (try clear hi)) | ((with_reducible refine gate_callee (f := 24) rfl ?_); refine goesL_ (some 9) rfl rfl Tryd.func24 (by kernel_rfl) rfl #[.int .u64 a1] rfl (by (try simp only [List.map_toArray, List.map_cons, List.map_nil]); first | done | rfl | (simp only [List.length_drop, List.length_take]; rfl)) ?_; (with_reducible refine (wageofficeref23_Eight.calls k a1 t120 _ A5.out).mono ?_); rintro e w9 ⟨rfl, hb⟩; refine ⟨_, rfl, ?_⟩; have n0_ := Aside0.mk (below_step (by repeat (first | (with_reducible first | exact HB.out | apply below_alloc | apply pw_below_drewN | apply below_drew1) | exact HB.out)) hb); clear HB; have HB := n0_; clear n0_; (try clear hb); (try clear hb2); (try clear hk); (try clear hi)) | ((with_reducible refine gate_callee (f := 13) rfl ?_); refine goesL_ (some 11) rfl rfl Tryd.func13 (by kernel_rfl) rfl #[.string (((⟨#[1]⟩ : ByteArray) ++ t119) ++ t120)] rfl (by (try simp only [List.map_toArray, List.map_cons, List.map_nil]); first | done | rfl | (simp only [List.length_drop, List.length_take]; rfl)) ?_; (with_reducible refine (wageofficeref23_Sum.calls k (((⟨#[1]⟩ : ByteArray) ++ t119) ++ t120) t121 _ A7.out).mono ?_); rintro e w' ⟨rfl, ⟨nd, rfl⟩⟩; refine ⟨_, rfl, ?_⟩))
      go_ret
      exact ⟨by first | rfl | (simp [errW_none, errW_some] <;> rfl) | (simp [*, errW_none, errW_some] <;> rfl), by repeat (first | (with_reducible first | exact HB.out | apply below_alloc | apply pw_below_drewN | apply below_drew1) | exact HB.out)⟩
    · rw [if_neg c6] at H
      exact absurd H (by simp)
  · rw [if_neg c4] at H
    exact absurd H (by simp)

/-! ### wageofficeref23_Text: function 17 -/
def wageofficeref23_Text.l0 : Nat → Int → ByteArray → Int → Option (ByteArray)
  | 0, _, _, _ => none
  | k + 1, x0, x3, x4 => if x4 < 16 then (if 0 ≤ (wrap64 (Int.tmod x0 16)) then (if (wrap64 (Int.tmod x0 16)) ≤ (wrap64 ((wrap64 (Int.tmod x0 16)) + 1)) then (if (wrap64 ((wrap64 (Int.tmod x0 16)) + 1)) ≤ 16 then (if ((⟨#[48, 49, 50, 51, 52, 53, 54, 55, 56, 57, 97, 98, 99, 100, 101, 102]⟩ : ByteArray).extract ((wrap64 (Int.tmod x0 16)) : Int).toNat ((wrap64 ((wrap64 (Int.tmod x0 16)) + 1)) : Int).toNat).size + x3.size ≤ 9223372036854775807 then (wageofficeref23_Text.l0 k (IntKind.u64.wrap (Int.tdiv x0 16)) (((⟨#[48, 49, 50, 51, 52, 53, 54, 55, 56, 57, 97, 98, 99, 100, 101, 102]⟩ : ByteArray).extract ((wrap64 (Int.tmod x0 16)) : Int).toNat ((wrap64 ((wrap64 (Int.tmod x0 16)) + 1)) : Int).toNat) ++ x3) (wrap64 (x4 + 1))) else (none)) else (none)) else (none)) else (none)) else (some x3)
def wageofficeref23_Text.f (k : Nat) (a0 : Int) : Option (ByteArray) := wageofficeref23_Text.l0 k a0 (⟨#[]⟩ : ByteArray) 0
theorem wageofficeref23_Text.mono_l : ∀ k, (∀ y0 y1 y2, LeO (wageofficeref23_Text.l0 k y0 y1 y2) (wageofficeref23_Text.l0 (k + 1) y0 y1 y2))
  | 0 => fun _ _ _ r h => by simp [wageofficeref23_Text.l0] at h
  | k + 1 => by
    have ih0 := wageofficeref23_Text.mono_l k
    · intro y0 y1 y2
      unfold wageofficeref23_Text.l0
      repeat' first
      | (with_reducible exact ih0 _ _ _)
      | (with_reducible exact LeO.refl _)
      | (with_reducible exact LeO.none _)
      | (with_reducible refine LeO.ite ?_ ?_)
      | (with_reducible refine LeO.bind ?_ (fun _ => ?_))
      | exact ih0 _ _ _
      | exact LeO.none _
      | refine LeO.ite ?_ ?_
      | refine LeO.bind ?_ (fun _ => ?_)
theorem wageofficeref23_Text.mono : ∀ a0 k, LeO (wageofficeref23_Text.f k a0) (wageofficeref23_Text.f (k + 1) a0) := by
  intro a0 k
  have ih0 := wageofficeref23_Text.mono_l k
  unfold wageofficeref23_Text.f
  repeat' first
      | (with_reducible exact ih0 _ _ _)
      | (with_reducible exact LeO.refl _)
      | (with_reducible exact LeO.none _)
      | (with_reducible refine LeO.ite ?_ ?_)
      | (with_reducible refine LeO.bind ?_ (fun _ => ?_))
      | exact ih0 _ _ _
      | exact LeO.none _
      | refine LeO.ite ?_ ?_
      | refine LeO.bind ?_ (fun _ => ?_)
set_option maxHeartbeats 8000000 in
set_option maxRecDepth 100000 in
theorem wageofficeref23_Text.calls (k : Nat) (a0 : Int) (r : ByteArray) (w : World) (h : wageofficeref23_Text.f k a0 = some r) :
    Calls Tryd.prog 17 #[.int .u64 a0] w fun e w' => e = .returned (.string r) ∧ Drawn0 w w' := by
  have H : (wageofficeref23_Text.l0 k a0 (⟨#[]⟩ : ByteArray) 0) = some r := h
  clear h
  have H' := Aside0.mk H
  clear H
  go_enter Tryd.func17, Tryd.ntmps17
  go_wp2
  go_loopg [0, 3, 4] k (fun kq v0 v3 v4 w' => ∃ (x0_1 : Int) (x3_1 : ByteArray) (x4_1 : Int), v0 = .int .u64 x0_1 ∧ v3 = .string x3_1 ∧ v4 = .int .i64 x4_1 ∧ Aside0 (wageofficeref23_Text.l0 kq x0_1 x3_1 x4_1 = some r) ∧ Aside0 (kq ≤ k) ∧ Drawn0 w w')
  case atStart => exact ⟨(a0), ((⟨#[]⟩ : ByteArray)), (0), (by first | rfl | (simp; done) | (simp [*]; done)), (by first | rfl | (simp; done) | (simp [*]; done)), (by first | rfl | (simp; done) | (simp [*]; done)), H', ⟨Nat.le_refl _⟩, by repeat (first | exact Drawn0.refl _ | apply Drawn0.step)⟩
  case round =>
    clear H'
    try clear c1
    obtain ⟨x0_1, x3_1, x4_1, rfl, rfl, rfl, HA, HK1, ⟨m1, rfl⟩⟩ := hrel
    cases gk with
    | zero => exact absurd HA.out (by simp [wageofficeref23_Text.l0])
    | succ k1 =>
      have H := HA.out
      clear HA
      simp only [wageofficeref23_Text.l0] at H
      by_cases c2 : x4_1 < 16
      · rw [if_pos c2] at H
        have c2b0 : decide (x4_1 < 16) = true := decide_eq_true c2
        clear c2
        obtain ⟨ji3, hji3⟩ : ∃ j_ : Int, (wrap64 (Int.tmod x0_1 16)) = j_ := ⟨_, rfl⟩
        replace H : (if 0 ≤ (ji3) then (if (ji3) ≤ (wrap64 ((ji3) + 1)) then (if (wrap64 ((ji3) + 1)) ≤ 16 then (if ((⟨#[48, 49, 50, 51, 52, 53, 54, 55, 56, 57, 97, 98, 99, 100, 101, 102]⟩ : ByteArray).extract ((ji3) : Int).toNat ((wrap64 ((ji3) + 1)) : Int).toNat).size + x3_1.size ≤ 9223372036854775807 then (wageofficeref23_Text.l0 k1 (IntKind.u64.wrap (Int.tdiv x0_1 16)) (((⟨#[48, 49, 50, 51, 52, 53, 54, 55, 56, 57, 97, 98, 99, 100, 101, 102]⟩ : ByteArray).extract ((ji3) : Int).toNat ((wrap64 ((ji3) + 1)) : Int).toNat) ++ x3_1) (wrap64 (x4_1 + 1))) else (none)) else (none)) else (none)) else (none)) = some r := by first | (rw [hji3] at H; exact H) | (simp only [hji3] at H ⊢; exact H)
        have hji3w : (IntKind.i64.wrap (Int.tmod x0_1 16)) = ji3 := (i64_w _).trans hji3
        by_cases c4 : 0 ≤ (ji3)
        · rw [if_pos c4] at H
          have c4b0 := eq_true c4
          have c4b1 : decide (0 ≤ (ji3)) = true := decide_eq_true c4
          clear c4
          by_cases c5 : (ji3) ≤ (wrap64 ((ji3) + 1))
          · rw [if_pos c5] at H
            have c5b0 := eq_true c5
            have c5b1 : decide ((ji3) ≤ (wrap64 ((ji3) + 1))) = true := decide_eq_true c5
            by_cases c6 : (wrap64 ((ji3) + 1)) ≤ 16
            · rw [if_pos c6] at H
              have c6b0 := eq_true c6
              have c6b1 : decide ((wrap64 ((ji3) + 1)) ≤ 16) = true := decide_eq_true c6
              obtain ⟨js7, hjs7⟩ : ∃ s_ : ByteArray, ((⟨#[48, 49, 50, 51, 52, 53, 54, 55, 56, 57, 97, 98, 99, 100, 101, 102]⟩ : ByteArray).extract ((ji3) : Int).toNat ((wrap64 ((ji3) + 1)) : Int).toNat) = s_ := ⟨_, rfl⟩
              replace H : (if js7.size + x3_1.size ≤ 9223372036854775807 then (wageofficeref23_Text.l0 k1 (IntKind.u64.wrap (Int.tdiv x0_1 16)) (js7 ++ x3_1) (wrap64 (x4_1 + 1))) else (none)) = some r := by first | (rw [hjs7] at H; exact H) | (simp only [hjs7] at H ⊢; exact H)
              by_cases c8 : js7.size + x3_1.size ≤ 9223372036854775807
              · rw [if_pos c8] at H
                have c8b0 := eq_true c8
                have c8b1 : decide (js7.size + x3_1.size ≤ 9223372036854775807) = true := decide_eq_true c8
                try have c8b2 : (9223372036854775807 < js7.size + x3_1.size) = False := eq_false (Nat.not_lt.2 c8)
                have H' := Aside0.mk H
                clear H
                go_wp2
                go_roundg k1
                case measure => have := HK1.out; omega
                case rel => exact ⟨(IntKind.u64.wrap (Int.tdiv x0_1 16)), (js7 ++ x3_1), (wrap64 (x4_1 + 1)), (by first | rfl | (simp; done) | (simp [*]; done)), (by first | rfl | (simp; done) | (simp only [← hjs7] <;> (first | rfl | simp)) | (simp [*]; done)), (by first | rfl | (simp; done) | (simp [*]; done)), H', ⟨by have := HK1.out; omega⟩, by repeat (first | exact Drawn0.refl _ | apply Drawn0.step)⟩
              · rw [if_neg c8] at H
                exact absurd H (by simp)
            · rw [if_neg c6] at H
              exact absurd H (by simp)
          · rw [if_neg c5] at H
            exact absurd H (by simp)
        · rw [if_neg c4] at H
          exact absurd H (by simp)
      · rw [if_neg c2] at H
        have c2b0 : decide (x4_1 < 16) = false := decide_eq_false c2
        clear c2
        obtain rfl := Option.some.inj H
        go_wp2
        go_ret
        exact ⟨by first | rfl | (simp; done) | (simp [*]; done), by repeat (first | exact Drawn0.refl _ | apply Drawn0.step)⟩

/-! ### wageofficelaw23_DigestMatchesReference: function 3 -/
def wageofficelaw23_DigestMatchesReference.f (k : Nat) (a0 : ByteArray) (a1 : Int) (a2 : Int) (a3 : ByteArray) : Option (Bool) := (wageofficelaw23_head.f k).bind fun t122 => (if 0 ≤ (mn (a0.size : Int) 2000) then (if (mn (a0.size : Int) 2000) ≤ (a0.size : Int) then (if 0 ≤ (mn (a3.size : Int) 40) then (if (mn (a3.size : Int) 40) ≤ (a3.size : Int) then ((digest_Parse.f (a3.extract 0 ((mn (a3.size : Int) 40) : Int).toNat)).bind fun bt123 => ((wageofficeref23_Parse.f k (a3.extract 0 ((mn (a3.size : Int) 40) : Int).toNat)).bind fun bt125 => (if t122 = true then ((digest_Sum.f (a0.extract 0 ((mn (a0.size : Int) 2000) : Int).toNat)).bind fun t127 => ((wageofficeref23_Sum.f k (a0.extract 0 ((mn (a0.size : Int) 2000) : Int).toNat)).bind fun t128 => (if t127 = t128 then ((digest_Pair.f a1 a2).bind fun t129 => ((wageofficeref23_Pair.f k a1 a2).bind fun t130 => (if t129 = t130 then ((digest_Text.f a1).bind fun t131 => ((wageofficeref23_Text.f k a1).bind fun t132 => (if t131.toList = t132.toList then (if bt123.1 = bt125.1 then (some (bt123.2 == bt125.2)) else (some false)) else (some false)))) else (some false)))) else (some false)))) else (some false)))) else (none)) else (none)) else (none)) else (none))
theorem wageofficelaw23_DigestMatchesReference.mono : ∀ a0 a1 a2 a3 k, LeO (wageofficelaw23_DigestMatchesReference.f k a0 a1 a2 a3) (wageofficelaw23_DigestMatchesReference.f (k + 1) a0 a1 a2 a3) := by
  intro a0 a1 a2 a3 k
  unfold wageofficelaw23_DigestMatchesReference.f
  repeat' first
      | (with_reducible exact wageofficelaw23_head.mono _)
      | (with_reducible exact wageofficeref23_Pair.mono _ _ _)
      | (with_reducible exact wageofficeref23_Parse.mono _ _)
      | (with_reducible exact wageofficeref23_Sum.mono _ _)
      | (with_reducible exact wageofficeref23_Text.mono _ _)
      | (with_reducible exact LeO.refl _)
      | (with_reducible exact LeO.none _)
      | (with_reducible refine LeO.ite ?_ ?_)
      | (with_reducible refine LeO.bind ?_ (fun _ => ?_))
      | exact wageofficelaw23_head.mono _
      | exact wageofficeref23_Pair.mono _ _ _
      | exact wageofficeref23_Parse.mono _ _
      | exact wageofficeref23_Sum.mono _ _
      | exact wageofficeref23_Text.mono _ _
      | exact LeO.none _
      | refine LeO.ite ?_ ?_
      | refine LeO.bind ?_ (fun _ => ?_)
set_option maxHeartbeats 8000000 in
set_option maxRecDepth 100000 in
theorem wageofficelaw23_DigestMatchesReference.calls (k : Nat) (a0 : ByteArray) (a1 : Int) (a2 : Int) (a3 : ByteArray) (r : Bool) (w : World) (h : wageofficelaw23_DigestMatchesReference.f k a0 a1 a2 a3 = some r) (hTHex0 : TabHex w) :
    Calls Tryd.prog 3 #[.string a0, .int .u64 a1, .int .u64 a2, .string a3] w fun e w' => e = .returned (.bool r) ∧ Below w.heap.size w w' := by
  have hTHex := Aside0.mk hTHex0
  clear hTHex0
  have HB := Aside0.mk (Below.refl w.heap.size w)
  have H : ((wageofficelaw23_head.f k).bind fun t122 => (if 0 ≤ (mn (a0.size : Int) 2000) then (if (mn (a0.size : Int) 2000) ≤ (a0.size : Int) then (if 0 ≤ (mn (a3.size : Int) 40) then (if (mn (a3.size : Int) 40) ≤ (a3.size : Int) then ((digest_Parse.f (a3.extract 0 ((mn (a3.size : Int) 40) : Int).toNat)).bind fun bt123 => ((wageofficeref23_Parse.f k (a3.extract 0 ((mn (a3.size : Int) 40) : Int).toNat)).bind fun bt125 => (if t122 = true then ((digest_Sum.f (a0.extract 0 ((mn (a0.size : Int) 2000) : Int).toNat)).bind fun t127 => ((wageofficeref23_Sum.f k (a0.extract 0 ((mn (a0.size : Int) 2000) : Int).toNat)).bind fun t128 => (if t127 = t128 then ((digest_Pair.f a1 a2).bind fun t129 => ((wageofficeref23_Pair.f k a1 a2).bind fun t130 => (if t129 = t130 then ((digest_Text.f a1).bind fun t131 => ((wageofficeref23_Text.f k a1).bind fun t132 => (if t131.toList = t132.toList then (if bt123.1 = bt125.1 then (some (bt123.2 == bt125.2)) else (some false)) else (some false)))) else (some false)))) else (some false)))) else (some false)))) else (none)) else (none)) else (none)) else (none))) = some r := h
  clear h
  replace H := Option.bind_eq_some_iff.mp H
  obtain ⟨t122, A50, H⟩ := H
  replace H : (if 0 ≤ (mn (a0.size : Int) 2000) then (if (mn (a0.size : Int) 2000) ≤ (a0.size : Int) then (if 0 ≤ (mn (a3.size : Int) 40) then (if (mn (a3.size : Int) 40) ≤ (a3.size : Int) then ((digest_Parse.f (a3.extract 0 ((mn (a3.size : Int) 40) : Int).toNat)).bind fun bt123 => ((wageofficeref23_Parse.f k (a3.extract 0 ((mn (a3.size : Int) 40) : Int).toNat)).bind fun bt125 => (if t122 = true then ((digest_Sum.f (a0.extract 0 ((mn (a0.size : Int) 2000) : Int).toNat)).bind fun t127 => ((wageofficeref23_Sum.f k (a0.extract 0 ((mn (a0.size : Int) 2000) : Int).toNat)).bind fun t128 => (if t127 = t128 then ((digest_Pair.f a1 a2).bind fun t129 => ((wageofficeref23_Pair.f k a1 a2).bind fun t130 => (if t129 = t130 then ((digest_Text.f a1).bind fun t131 => ((wageofficeref23_Text.f k a1).bind fun t132 => (if t131.toList = t132.toList then (if bt123.1 = bt125.1 then (some (bt123.2 == bt125.2)) else (some false)) else (some false)))) else (some false)))) else (some false)))) else (some false)))) else (none)) else (none)) else (none)) else (none)) = some r := H
  have A5 := Aside0.mk A50
  clear A50
  obtain ⟨ji6, hji6⟩ : ∃ j_ : Int, (mn (a0.size : Int) 2000) = j_ := ⟨_, rfl⟩
  replace H : (if 0 ≤ (ji6) then (if (ji6) ≤ (a0.size : Int) then (if 0 ≤ (mn (a3.size : Int) 40) then (if (mn (a3.size : Int) 40) ≤ (a3.size : Int) then ((digest_Parse.f (a3.extract 0 ((mn (a3.size : Int) 40) : Int).toNat)).bind fun bt123 => ((wageofficeref23_Parse.f k (a3.extract 0 ((mn (a3.size : Int) 40) : Int).toNat)).bind fun bt125 => (if t122 = true then ((digest_Sum.f (a0.extract 0 ((ji6) : Int).toNat)).bind fun t127 => ((wageofficeref23_Sum.f k (a0.extract 0 ((ji6) : Int).toNat)).bind fun t128 => (if t127 = t128 then ((digest_Pair.f a1 a2).bind fun t129 => ((wageofficeref23_Pair.f k a1 a2).bind fun t130 => (if t129 = t130 then ((digest_Text.f a1).bind fun t131 => ((wageofficeref23_Text.f k a1).bind fun t132 => (if t131.toList = t132.toList then (if bt123.1 = bt125.1 then (some (bt123.2 == bt125.2)) else (some false)) else (some false)))) else (some false)))) else (some false)))) else (some false)))) else (none)) else (none)) else (none)) else (none)) = some r := by first | (rw [hji6] at H; exact H) | (simp only [hji6] at H ⊢; exact H)
  (try rw [hji6] at A5)
  (try (have hji6h : ji6 ≤ 2000 := by (rw [← hji6]; unfold mn; (repeat' split) <;> omega)))
  (try (have hji6g : ji6 ≤ 64 := by omega))
  (try (have hji6l : 0 ≤ ji6 := by (rw [← hji6]; unfold mn; (repeat' split) <;> omega)))
  (try (have hji6m : 0 ≤ ji6 := by omega))
  have hji6_ : (if 2000 < (a0.size : Int) then 2000 else (a0.size : Int)) = ji6 := hji6
  by_cases c7 : 0 ≤ (ji6)
  · rw [if_pos c7] at H
    have c7b0 := eq_true c7
    have c7b1 : decide (0 ≤ (ji6)) = true := decide_eq_true c7
    clear c7
    by_cases c8 : (ji6) ≤ (a0.size : Int)
    · rw [if_pos c8] at H
      have c8b0 := eq_true c8
      have c8b1 : decide ((ji6) ≤ (a0.size : Int)) = true := decide_eq_true c8
      clear c8
      obtain ⟨js9, hjs9⟩ : ∃ s_ : ByteArray, (a0.extract 0 ((ji6) : Int).toNat) = s_ := ⟨_, rfl⟩
      replace H : (if 0 ≤ (mn (a3.size : Int) 40) then (if (mn (a3.size : Int) 40) ≤ (a3.size : Int) then ((digest_Parse.f (a3.extract 0 ((mn (a3.size : Int) 40) : Int).toNat)).bind fun bt123 => ((wageofficeref23_Parse.f k (a3.extract 0 ((mn (a3.size : Int) 40) : Int).toNat)).bind fun bt125 => (if t122 = true then ((digest_Sum.f js9).bind fun t127 => ((wageofficeref23_Sum.f k js9).bind fun t128 => (if t127 = t128 then ((digest_Pair.f a1 a2).bind fun t129 => ((wageofficeref23_Pair.f k a1 a2).bind fun t130 => (if t129 = t130 then ((digest_Text.f a1).bind fun t131 => ((wageofficeref23_Text.f k a1).bind fun t132 => (if t131.toList = t132.toList then (if bt123.1 = bt125.1 then (some (bt123.2 == bt125.2)) else (some false)) else (some false)))) else (some false)))) else (some false)))) else (some false)))) else (none)) else (none)) = some r := by first | (rw [hjs9] at H; exact H) | (simp only [hjs9] at H ⊢; exact H)
      (try rw [hjs9] at A5)
      obtain ⟨ji10, hji10⟩ : ∃ j_ : Int, (mn (a3.size : Int) 40) = j_ := ⟨_, rfl⟩
      replace H : (if 0 ≤ (ji10) then (if (ji10) ≤ (a3.size : Int) then ((digest_Parse.f (a3.extract 0 ((ji10) : Int).toNat)).bind fun bt123 => ((wageofficeref23_Parse.f k (a3.extract 0 ((ji10) : Int).toNat)).bind fun bt125 => (if t122 = true then ((digest_Sum.f js9).bind fun t127 => ((wageofficeref23_Sum.f k js9).bind fun t128 => (if t127 = t128 then ((digest_Pair.f a1 a2).bind fun t129 => ((wageofficeref23_Pair.f k a1 a2).bind fun t130 => (if t129 = t130 then ((digest_Text.f a1).bind fun t131 => ((wageofficeref23_Text.f k a1).bind fun t132 => (if t131.toList = t132.toList then (if bt123.1 = bt125.1 then (some (bt123.2 == bt125.2)) else (some false)) else (some false)))) else (some false)))) else (some false)))) else (some false)))) else (none)) else (none)) = some r := by first | (rw [hji10] at H; exact H) | (simp only [hji10] at H ⊢; exact H)
      (try rw [hji10] at A5)
      (try (have hji10h : ji10 ≤ 40 := by (rw [← hji10]; unfold mn; (repeat' split) <;> omega)))
      (try (have hji10g : ji10 ≤ 64 := by omega))
      (try (have hji10l : 0 ≤ ji10 := by (rw [← hji10]; unfold mn; (repeat' split) <;> omega)))
      (try (have hji10m : 0 ≤ ji10 := by omega))
      have hji10_ : (if 40 < (a3.size : Int) then 40 else (a3.size : Int)) = ji10 := hji10
      by_cases c11 : 0 ≤ (ji10)
      · rw [if_pos c11] at H
        have c11b0 := eq_true c11
        have c11b1 : decide (0 ≤ (ji10)) = true := decide_eq_true c11
        clear c11
        by_cases c12 : (ji10) ≤ (a3.size : Int)
        · rw [if_pos c12] at H
          have c12b0 := eq_true c12
          have c12b1 : decide ((ji10) ≤ (a3.size : Int)) = true := decide_eq_true c12
          clear c12
          obtain ⟨js13, hjs13⟩ : ∃ s_ : ByteArray, (a3.extract 0 ((ji10) : Int).toNat) = s_ := ⟨_, rfl⟩
          replace H : ((digest_Parse.f js13).bind fun bt123 => ((wageofficeref23_Parse.f k js13).bind fun bt125 => (if t122 = true then ((digest_Sum.f js9).bind fun t127 => ((wageofficeref23_Sum.f k js9).bind fun t128 => (if t127 = t128 then ((digest_Pair.f a1 a2).bind fun t129 => ((wageofficeref23_Pair.f k a1 a2).bind fun t130 => (if t129 = t130 then ((digest_Text.f a1).bind fun t131 => ((wageofficeref23_Text.f k a1).bind fun t132 => (if t131.toList = t132.toList then (if bt123.1 = bt125.1 then (some (bt123.2 == bt125.2)) else (some false)) else (some false)))) else (some false)))) else (some false)))) else (some false)))) = some r := by first | (rw [hjs13] at H; exact H) | (simp only [hjs13] at H ⊢; exact H)
          (try rw [hjs13] at A5)
          replace H := Option.bind_eq_some_iff.mp H
          obtain ⟨⟨t123, t124⟩, A140, H⟩ := H
          replace H : ((wageofficeref23_Parse.f k js13).bind fun bt125 => (if t122 = true then ((digest_Sum.f js9).bind fun t127 => ((wageofficeref23_Sum.f k js9).bind fun t128 => (if t127 = t128 then ((digest_Pair.f a1 a2).bind fun t129 => ((wageofficeref23_Pair.f k a1 a2).bind fun t130 => (if t129 = t130 then ((digest_Text.f a1).bind fun t131 => ((wageofficeref23_Text.f k a1).bind fun t132 => (if t131.toList = t132.toList then (if t123 = bt125.1 then (some (t124 == bt125.2)) else (some false)) else (some false)))) else (some false)))) else (some false)))) else (some false))) = some r := H
          have A14 := Aside0.mk A140
          clear A140
          replace H := Option.bind_eq_some_iff.mp H
          obtain ⟨⟨t125, t126⟩, A150, H⟩ := H
          replace H : (if t122 = true then ((digest_Sum.f js9).bind fun t127 => ((wageofficeref23_Sum.f k js9).bind fun t128 => (if t127 = t128 then ((digest_Pair.f a1 a2).bind fun t129 => ((wageofficeref23_Pair.f k a1 a2).bind fun t130 => (if t129 = t130 then ((digest_Text.f a1).bind fun t131 => ((wageofficeref23_Text.f k a1).bind fun t132 => (if t131.toList = t132.toList then (if t123 = t125 then (some (t124 == t126)) else (some false)) else (some false)))) else (some false)))) else (some false)))) else (some false)) = some r := H
          have A15 := Aside0.mk A150
          clear A150
          by_cases c16 : t122 = true
          · subst c16
            have H1 : ((digest_Sum.f js9).bind fun t127 => ((wageofficeref23_Sum.f k js9).bind fun t128 => (if t127 = t128 then ((digest_Pair.f a1 a2).bind fun t129 => ((wageofficeref23_Pair.f k a1 a2).bind fun t130 => (if t129 = t130 then ((digest_Text.f a1).bind fun t131 => ((wageofficeref23_Text.f k a1).bind fun t132 => (if t131.toList = t132.toList then (if t123 = t125 then (some (t124 == t126)) else (some false)) else (some false)))) else (some false)))) else (some false)))) = some r := by rw [if_pos rfl] at H; exact H
            clear H
            have H := H1
            clear H1
            replace H := Option.bind_eq_some_iff.mp H
            obtain ⟨t127, A170, H⟩ := H
            replace H : ((wageofficeref23_Sum.f k js9).bind fun t128 => (if t127 = t128 then ((digest_Pair.f a1 a2).bind fun t129 => ((wageofficeref23_Pair.f k a1 a2).bind fun t130 => (if t129 = t130 then ((digest_Text.f a1).bind fun t131 => ((wageofficeref23_Text.f k a1).bind fun t132 => (if t131.toList = t132.toList then (if t123 = t125 then (some (t124 == t126)) else (some false)) else (some false)))) else (some false)))) else (some false))) = some r := H
            have A17 := Aside0.mk A170
            clear A170
            replace H := Option.bind_eq_some_iff.mp H
            obtain ⟨t128, A180, H⟩ := H
            replace H : (if t127 = t128 then ((digest_Pair.f a1 a2).bind fun t129 => ((wageofficeref23_Pair.f k a1 a2).bind fun t130 => (if t129 = t130 then ((digest_Text.f a1).bind fun t131 => ((wageofficeref23_Text.f k a1).bind fun t132 => (if t131.toList = t132.toList then (if t123 = t125 then (some (t124 == t126)) else (some false)) else (some false)))) else (some false)))) else (some false)) = some r := H
            have A18 := Aside0.mk A180
            clear A180
            by_cases c19 : t127 = t128
            · rw [if_pos c19] at H
              have c19b0 : (t127 == t128) = true := beq_iff_eq.mpr c19
              have c19b1 : (t127 != t128) = false := bne_eq_false_iff_eq.mpr c19
              clear c19
              replace H := Option.bind_eq_some_iff.mp H
              obtain ⟨t129, A200, H⟩ := H
              replace H : ((wageofficeref23_Pair.f k a1 a2).bind fun t130 => (if t129 = t130 then ((digest_Text.f a1).bind fun t131 => ((wageofficeref23_Text.f k a1).bind fun t132 => (if t131.toList = t132.toList then (if t123 = t125 then (some (t124 == t126)) else (some false)) else (some false)))) else (some false))) = some r := H
              have A20 := Aside0.mk A200
              clear A200
              replace H := Option.bind_eq_some_iff.mp H
              obtain ⟨t130, A210, H⟩ := H
              replace H : (if t129 = t130 then ((digest_Text.f a1).bind fun t131 => ((wageofficeref23_Text.f k a1).bind fun t132 => (if t131.toList = t132.toList then (if t123 = t125 then (some (t124 == t126)) else (some false)) else (some false)))) else (some false)) = some r := H
              have A21 := Aside0.mk A210
              clear A210
              by_cases c22 : t129 = t130
              · rw [if_pos c22] at H
                have c22b0 : (t129 == t130) = true := beq_iff_eq.mpr c22
                have c22b1 : (t129 != t130) = false := bne_eq_false_iff_eq.mpr c22
                clear c22
                replace H := Option.bind_eq_some_iff.mp H
                obtain ⟨t131, A230, H⟩ := H
                replace H : ((wageofficeref23_Text.f k a1).bind fun t132 => (if t131.toList = t132.toList then (if t123 = t125 then (some (t124 == t126)) else (some false)) else (some false))) = some r := H
                have A23 := Aside0.mk A230
                clear A230
                replace H := Option.bind_eq_some_iff.mp H
                obtain ⟨t132, A240, H⟩ := H
                replace H : (if t131.toList = t132.toList then (if t123 = t125 then (some (t124 == t126)) else (some false)) else (some false)) = some r := H
                have A24 := Aside0.mk A240
                clear A240
                by_cases c25 : t131.toList = t132.toList
                · rw [if_pos c25] at H
                  have c25b0 : (t131.toList == t132.toList) = true := beq_iff_eq.mpr c25
                  have c25b1 : (t131.toList != t132.toList) = false := bne_eq_false_iff_eq.mpr c25
                  clear c25
                  by_cases c26 : t123 = t125
                  · rw [if_pos c26] at H
                    have c26b0 : (t123 == t125) = true := beq_iff_eq.mpr c26
                    have c26b1 : (t123 != t125) = false := bne_eq_false_iff_eq.mpr c26
                    clear c26
                    obtain rfl := Option.some.inj H
                    go_enter Tryd.func3, Tryd.ntmps3
                    go_wp2_with (first | ((with_reducible refine gate_callee (f := 9) rfl ?_); refine goesL_ (some 16) rfl rfl Tryd.func9 (by kernel_rfl) rfl #[] rfl (by (try simp only [List.map_toArray, List.map_cons, List.map_nil]); first | done | rfl | (simp only [List.length_drop, List.length_take]; rfl)) ?_; (with_reducible refine (wageofficelaw23_head.calls k  true _ A5.out (TabHex.below hTHex.out (by repeat (first | (with_reducible first | exact HB.out | exact Below.refl _ _ | apply below_alloc | apply pw_below_drewN | apply below_drew1 | apply below_drew) | exact HB.out)))).mono ?_); rintro e w27 ⟨rfl, hb⟩; refine ⟨_, rfl, ?_⟩; have n0_ := Aside0.mk (below_step (by repeat (first | (with_reducible first | exact HB.out | apply below_alloc | apply pw_below_drewN | apply below_drew1) | exact HB.out)) hb); clear HB; have HB := n0_; clear n0_; (try clear hb); (try clear hb2); (try clear hk); (try clear hi)) | ((with_reducible refine gate_callee (f := 10) rfl ?_); refine goesL_ (some 31) rfl rfl Tryd.func10 (by kernel_rfl) rfl #[.string js13] rfl (by (try simp only [List.map_toArray, List.map_cons, List.map_nil]); first | done | rfl | (simp only [List.length_drop, List.length_take]; rfl)) ?_; (with_reducible refine (digest_Parse.calls js13 t123 t124 _ A14.out (TabHex.below hTHex.out (by repeat (first | (with_reducible first | exact HB.out | exact Below.refl _ _ | apply below_alloc | apply pw_below_drewN | apply below_drew1 | apply below_drew) | exact HB.out)))).mono ?_); rintro e w28 ⟨rfl, hb⟩; refine ⟨_, rfl, ?_⟩; have n0_ := Aside0.mk (below_step (by repeat (first | (with_reducible first | exact HB.out | apply below_alloc | apply pw_below_drewN | apply below_drew1) | exact HB.out)) hb); clear HB; have HB := n0_; clear n0_; (try clear hb); (try clear hb2); (try clear hk); (try clear hi)) | ((with_reducible refine gate_callee (f := 11) rfl ?_); refine goesL_ (some 36) rfl rfl Tryd.func11 (by kernel_rfl) rfl #[.string js13] rfl (by (try simp only [List.map_toArray, List.map_cons, List.map_nil]); first | done | rfl | (simp only [List.length_drop, List.length_take]; rfl)) ?_; (with_reducible refine (wageofficeref23_Parse.calls k js13 t125 t126 _ A15.out).mono ?_); rintro e w' ⟨rfl, ⟨nd, rfl⟩⟩; refine ⟨_, rfl, ?_⟩) | (go_at_call 12; (with_reducible refine (digest_Sum.calls js9 t127 _ A17.out).mono ?_); rintro e w29 ⟨rfl, hb⟩; have n0_ := Aside0.mk (below_step (by repeat (first | (with_reducible first | exact HB.out | apply below_alloc | apply pw_below_drewN | apply below_drew1) | exact HB.out)) hb); clear HB; have HB := n0_; clear n0_; (try clear hb); (try clear hb2); (try clear hk); (try clear hi)) | (go_at_call 13; (with_reducible refine (wageofficeref23_Sum.calls k js9 t128 _ A18.out).mono ?_); rintro e w' ⟨rfl, ⟨nd, rfl⟩⟩) | (go_at_call 14; (with_reducible refine (digest_Pair.calls a1 a2 t129 _ A20.out).mono ?_); rintro e w30 ⟨rfl, hb⟩; have n0_ := Aside0.mk (below_step (by repeat (first | (with_reducible first | exact HB.out | apply below_alloc | apply pw_below_drewN | apply below_drew1) | exact HB.out)) hb); clear HB; have HB := n0_; clear n0_; (try clear hb); (try clear hb2); (try clear hk); (try clear hi)) | (go_at_call 15; (with_reducible refine (wageofficeref23_Pair.calls k a1 a2 t130 _ A21.out).mono ?_); rintro e w31 ⟨rfl, hb⟩; have n0_ := Aside0.mk (below_step (by repeat (first | (with_reducible first | exact HB.out | apply below_alloc | apply pw_below_drewN | apply below_drew1) | exact HB.out)) hb); clear HB; have HB := n0_; clear n0_; (try clear hb); (try clear hb2); (try clear hk); (try clear hi)) | (go_at_call 16; (with_reducible refine (digest_Text.calls a1 t131 _ A23.out (TabHex.below hTHex.out (by repeat (first | (with_reducible first | exact HB.out | exact Below.refl _ _ | apply below_alloc | apply pw_below_drewN | apply below_drew1 | apply below_drew) | exact HB.out)))).mono ?_); rintro e w32 ⟨rfl, hb⟩; have n0_ := Aside0.mk (below_step (by repeat (first | (with_reducible first | exact HB.out | apply below_alloc | apply pw_below_drewN | apply below_drew1) | exact HB.out)) hb); clear HB; have HB := n0_; clear n0_; (try clear hb); (try clear hb2); (try clear hk); (try clear hi)) | (go_at_call 17; (with_reducible refine (wageofficeref23_Text.calls k a1 t132 _ A24.out).mono ?_); rintro e w' ⟨rfl, ⟨nd, rfl⟩⟩))
                    go_ret
                    exact ⟨by first | rfl | (simp [errW_none, errW_some] <;> rfl) | (simp only [← hji6, ← hjs9, ← hji10, ← hjs13]; first | rfl | (simp [errW_none, errW_some] <;> rfl)) | (simp [*, errW_none, errW_some] <;> rfl), by repeat (first | (with_reducible first | exact HB.out | apply below_alloc | apply pw_below_drewN | apply below_drew1) | exact HB.out)⟩
                  · rw [if_neg c26] at H
                    have c26b0 : (t123 == t125) = false := beq_eq_false_iff_ne.mpr c26
                    have c26b1 : (t123 != t125) = true := bne_iff_ne.mpr c26
                    obtain rfl := Option.some.inj H
                    go_enter Tryd.func3, Tryd.ntmps3
                    go_wp2_with (first | ((with_reducible refine gate_callee (f := 9) rfl ?_); refine goesL_ (some 16) rfl rfl Tryd.func9 (by kernel_rfl) rfl #[] rfl (by (try simp only [List.map_toArray, List.map_cons, List.map_nil]); first | done | rfl | (simp only [List.length_drop, List.length_take]; rfl)) ?_; (with_reducible refine (wageofficelaw23_head.calls k  true _ A5.out (TabHex.below hTHex.out (by repeat (first | (with_reducible first | exact HB.out | exact Below.refl _ _ | apply below_alloc | apply pw_below_drewN | apply below_drew1 | apply below_drew) | exact HB.out)))).mono ?_); rintro e w33 ⟨rfl, hb⟩; refine ⟨_, rfl, ?_⟩; have n0_ := Aside0.mk (below_step (by repeat (first | (with_reducible first | exact HB.out | apply below_alloc | apply pw_below_drewN | apply below_drew1) | exact HB.out)) hb); clear HB; have HB := n0_; clear n0_; (try clear hb); (try clear hb2); (try clear hk); (try clear hi)) | ((with_reducible refine gate_callee (f := 10) rfl ?_); refine goesL_ (some 31) rfl rfl Tryd.func10 (by kernel_rfl) rfl #[.string js13] rfl (by (try simp only [List.map_toArray, List.map_cons, List.map_nil]); first | done | rfl | (simp only [List.length_drop, List.length_take]; rfl)) ?_; (with_reducible refine (digest_Parse.calls js13 t123 t124 _ A14.out (TabHex.below hTHex.out (by repeat (first | (with_reducible first | exact HB.out | exact Below.refl _ _ | apply below_alloc | apply pw_below_drewN | apply below_drew1 | apply below_drew) | exact HB.out)))).mono ?_); rintro e w34 ⟨rfl, hb⟩; refine ⟨_, rfl, ?_⟩; have n0_ := Aside0.mk (below_step (by repeat (first | (with_reducible first | exact HB.out | apply below_alloc | apply pw_below_drewN | apply below_drew1) | exact HB.out)) hb); clear HB; have HB := n0_; clear n0_; (try clear hb); (try clear hb2); (try clear hk); (try clear hi)) | ((with_reducible refine gate_callee (f := 11) rfl ?_); refine goesL_ (some 36) rfl rfl Tryd.func11 (by kernel_rfl) rfl #[.string js13] rfl (by (try simp only [List.map_toArray, List.map_cons, List.map_nil]); first | done | rfl | (simp only [List.length_drop, List.length_take]; rfl)) ?_; (with_reducible refine (wageofficeref23_Parse.calls k js13 t125 t126 _ A15.out).mono ?_); rintro e w' ⟨rfl, ⟨nd, rfl⟩⟩; refine ⟨_, rfl, ?_⟩) | (go_at_call 12; (with_reducible refine (digest_Sum.calls js9 t127 _ A17.out).mono ?_); rintro e w35 ⟨rfl, hb⟩; have n0_ := Aside0.mk (below_step (by repeat (first | (with_reducible first | exact HB.out | apply below_alloc | apply pw_below_drewN | apply below_drew1) | exact HB.out)) hb); clear HB; have HB := n0_; clear n0_; (try clear hb); (try clear hb2); (try clear hk); (try clear hi)) | (go_at_call 13; (with_reducible refine (wageofficeref23_Sum.calls k js9 t128 _ A18.out).mono ?_); rintro e w' ⟨rfl, ⟨nd, rfl⟩⟩) | (go_at_call 14; (with_reducible refine (digest_Pair.calls a1 a2 t129 _ A20.out).mono ?_); rintro e w36 ⟨rfl, hb⟩; have n0_ := Aside0.mk (below_step (by repeat (first | (with_reducible first | exact HB.out | apply below_alloc | apply pw_below_drewN | apply below_drew1) | exact HB.out)) hb); clear HB; have HB := n0_; clear n0_; (try clear hb); (try clear hb2); (try clear hk); (try clear hi)) | (go_at_call 15; (with_reducible refine (wageofficeref23_Pair.calls k a1 a2 t130 _ A21.out).mono ?_); rintro e w37 ⟨rfl, hb⟩; have n0_ := Aside0.mk (below_step (by repeat (first | (with_reducible first | exact HB.out | apply below_alloc | apply pw_below_drewN | apply below_drew1) | exact HB.out)) hb); clear HB; have HB := n0_; clear n0_; (try clear hb); (try clear hb2); (try clear hk); (try clear hi)) | (go_at_call 16; (with_reducible refine (digest_Text.calls a1 t131 _ A23.out (TabHex.below hTHex.out (by repeat (first | (with_reducible first | exact HB.out | exact Below.refl _ _ | apply below_alloc | apply pw_below_drewN | apply below_drew1 | apply below_drew) | exact HB.out)))).mono ?_); rintro e w38 ⟨rfl, hb⟩; have n0_ := Aside0.mk (below_step (by repeat (first | (with_reducible first | exact HB.out | apply below_alloc | apply pw_below_drewN | apply below_drew1) | exact HB.out)) hb); clear HB; have HB := n0_; clear n0_; (try clear hb); (try clear hb2); (try clear hk); (try clear hi)) | (go_at_call 17; (with_reducible refine (wageofficeref23_Text.calls k a1 t132 _ A24.out).mono ?_); rintro e w' ⟨rfl, ⟨nd, rfl⟩⟩))
                    go_ret
                    exact ⟨by first | rfl | (simp [errW_none, errW_some] <;> rfl) | (simp only [← hji6, ← hjs9, ← hji10, ← hjs13]; first | rfl | (simp [errW_none, errW_some] <;> rfl)) | (simp [*, errW_none, errW_some] <;> rfl), by repeat (first | (with_reducible first | exact HB.out | apply below_alloc | apply pw_below_drewN | apply below_drew1) | exact HB.out)⟩
                · rw [if_neg c25] at H
                  have c25b0 : (t131.toList == t132.toList) = false := beq_eq_false_iff_ne.mpr c25
                  have c25b1 : (t131.toList != t132.toList) = true := bne_iff_ne.mpr c25
                  obtain rfl := Option.some.inj H
                  go_enter Tryd.func3, Tryd.ntmps3
                  go_wp2_with (first | ((with_reducible refine gate_callee (f := 9) rfl ?_); refine goesL_ (some 16) rfl rfl Tryd.func9 (by kernel_rfl) rfl #[] rfl (by (try simp only [List.map_toArray, List.map_cons, List.map_nil]); first | done | rfl | (simp only [List.length_drop, List.length_take]; rfl)) ?_; (with_reducible refine (wageofficelaw23_head.calls k  true _ A5.out (TabHex.below hTHex.out (by repeat (first | (with_reducible first | exact HB.out | exact Below.refl _ _ | apply below_alloc | apply pw_below_drewN | apply below_drew1 | apply below_drew) | exact HB.out)))).mono ?_); rintro e w39 ⟨rfl, hb⟩; refine ⟨_, rfl, ?_⟩; have n0_ := Aside0.mk (below_step (by repeat (first | (with_reducible first | exact HB.out | apply below_alloc | apply pw_below_drewN | apply below_drew1) | exact HB.out)) hb); clear HB; have HB := n0_; clear n0_; (try clear hb); (try clear hb2); (try clear hk); (try clear hi)) | ((with_reducible refine gate_callee (f := 10) rfl ?_); refine goesL_ (some 31) rfl rfl Tryd.func10 (by kernel_rfl) rfl #[.string js13] rfl (by (try simp only [List.map_toArray, List.map_cons, List.map_nil]); first | done | rfl | (simp only [List.length_drop, List.length_take]; rfl)) ?_; (with_reducible refine (digest_Parse.calls js13 t123 t124 _ A14.out (TabHex.below hTHex.out (by repeat (first | (with_reducible first | exact HB.out | exact Below.refl _ _ | apply below_alloc | apply pw_below_drewN | apply below_drew1 | apply below_drew) | exact HB.out)))).mono ?_); rintro e w40 ⟨rfl, hb⟩; refine ⟨_, rfl, ?_⟩; have n0_ := Aside0.mk (below_step (by repeat (first | (with_reducible first | exact HB.out | apply below_alloc | apply pw_below_drewN | apply below_drew1) | exact HB.out)) hb); clear HB; have HB := n0_; clear n0_; (try clear hb); (try clear hb2); (try clear hk); (try clear hi)) | ((with_reducible refine gate_callee (f := 11) rfl ?_); refine goesL_ (some 36) rfl rfl Tryd.func11 (by kernel_rfl) rfl #[.string js13] rfl (by (try simp only [List.map_toArray, List.map_cons, List.map_nil]); first | done | rfl | (simp only [List.length_drop, List.length_take]; rfl)) ?_; (with_reducible refine (wageofficeref23_Parse.calls k js13 t125 t126 _ A15.out).mono ?_); rintro e w' ⟨rfl, ⟨nd, rfl⟩⟩; refine ⟨_, rfl, ?_⟩) | (go_at_call 12; (with_reducible refine (digest_Sum.calls js9 t127 _ A17.out).mono ?_); rintro e w41 ⟨rfl, hb⟩; have n0_ := Aside0.mk (below_step (by repeat (first | (with_reducible first | exact HB.out | apply below_alloc | apply pw_below_drewN | apply below_drew1) | exact HB.out)) hb); clear HB; have HB := n0_; clear n0_; (try clear hb); (try clear hb2); (try clear hk); (try clear hi)) | (go_at_call 13; (with_reducible refine (wageofficeref23_Sum.calls k js9 t128 _ A18.out).mono ?_); rintro e w' ⟨rfl, ⟨nd, rfl⟩⟩) | (go_at_call 14; (with_reducible refine (digest_Pair.calls a1 a2 t129 _ A20.out).mono ?_); rintro e w42 ⟨rfl, hb⟩; have n0_ := Aside0.mk (below_step (by repeat (first | (with_reducible first | exact HB.out | apply below_alloc | apply pw_below_drewN | apply below_drew1) | exact HB.out)) hb); clear HB; have HB := n0_; clear n0_; (try clear hb); (try clear hb2); (try clear hk); (try clear hi)) | (go_at_call 15; (with_reducible refine (wageofficeref23_Pair.calls k a1 a2 t130 _ A21.out).mono ?_); rintro e w43 ⟨rfl, hb⟩; have n0_ := Aside0.mk (below_step (by repeat (first | (with_reducible first | exact HB.out | apply below_alloc | apply pw_below_drewN | apply below_drew1) | exact HB.out)) hb); clear HB; have HB := n0_; clear n0_; (try clear hb); (try clear hb2); (try clear hk); (try clear hi)) | (go_at_call 16; (with_reducible refine (digest_Text.calls a1 t131 _ A23.out (TabHex.below hTHex.out (by repeat (first | (with_reducible first | exact HB.out | exact Below.refl _ _ | apply below_alloc | apply pw_below_drewN | apply below_drew1 | apply below_drew) | exact HB.out)))).mono ?_); rintro e w44 ⟨rfl, hb⟩; have n0_ := Aside0.mk (below_step (by repeat (first | (with_reducible first | exact HB.out | apply below_alloc | apply pw_below_drewN | apply below_drew1) | exact HB.out)) hb); clear HB; have HB := n0_; clear n0_; (try clear hb); (try clear hb2); (try clear hk); (try clear hi)) | (go_at_call 17; (with_reducible refine (wageofficeref23_Text.calls k a1 t132 _ A24.out).mono ?_); rintro e w' ⟨rfl, ⟨nd, rfl⟩⟩))
                  go_ret
                  exact ⟨by first | rfl | (simp [errW_none, errW_some] <;> rfl) | (simp only [← hji6, ← hjs9, ← hji10, ← hjs13]; first | rfl | (simp [errW_none, errW_some] <;> rfl)) | (simp [*, errW_none, errW_some] <;> rfl), by repeat (first | (with_reducible first | exact HB.out | apply below_alloc | apply pw_below_drewN | apply below_drew1) | exact HB.out)⟩
              · rw [if_neg c22] at H
                have c22b0 : (t129 == t130) = false := beq_eq_false_iff_ne.mpr c22
                have c22b1 : (t129 != t130) = true := bne_iff_ne.mpr c22
                obtain rfl := Option.some.inj H
                go_enter Tryd.func3, Tryd.ntmps3
                go_wp2_with (first | ((with_reducible refine gate_callee (f := 9) rfl ?_); refine goesL_ (some 16) rfl rfl Tryd.func9 (by kernel_rfl) rfl #[] rfl (by (try simp only [List.map_toArray, List.map_cons, List.map_nil]); first | done | rfl | (simp only [List.length_drop, List.length_take]; rfl)) ?_; (with_reducible refine (wageofficelaw23_head.calls k  true _ A5.out (TabHex.below hTHex.out (by repeat (first | (with_reducible first | exact HB.out | exact Below.refl _ _ | apply below_alloc | apply pw_below_drewN | apply below_drew1 | apply below_drew) | exact HB.out)))).mono ?_); rintro e w45 ⟨rfl, hb⟩; refine ⟨_, rfl, ?_⟩; have n0_ := Aside0.mk (below_step (by repeat (first | (with_reducible first | exact HB.out | apply below_alloc | apply pw_below_drewN | apply below_drew1) | exact HB.out)) hb); clear HB; have HB := n0_; clear n0_; (try clear hb); (try clear hb2); (try clear hk); (try clear hi)) | ((with_reducible refine gate_callee (f := 10) rfl ?_); refine goesL_ (some 31) rfl rfl Tryd.func10 (by kernel_rfl) rfl #[.string js13] rfl (by (try simp only [List.map_toArray, List.map_cons, List.map_nil]); first | done | rfl | (simp only [List.length_drop, List.length_take]; rfl)) ?_; (with_reducible refine (digest_Parse.calls js13 t123 t124 _ A14.out (TabHex.below hTHex.out (by repeat (first | (with_reducible first | exact HB.out | exact Below.refl _ _ | apply below_alloc | apply pw_below_drewN | apply below_drew1 | apply below_drew) | exact HB.out)))).mono ?_); rintro e w46 ⟨rfl, hb⟩; refine ⟨_, rfl, ?_⟩; have n0_ := Aside0.mk (below_step (by repeat (first | (with_reducible first | exact HB.out | apply below_alloc | apply pw_below_drewN | apply below_drew1) | exact HB.out)) hb); clear HB; have HB := n0_; clear n0_; (try clear hb); (try clear hb2); (try clear hk); (try clear hi)) | ((with_reducible refine gate_callee (f := 11) rfl ?_); refine goesL_ (some 36) rfl rfl Tryd.func11 (by kernel_rfl) rfl #[.string js13] rfl (by (try simp only [List.map_toArray, List.map_cons, List.map_nil]); first | done | rfl | (simp only [List.length_drop, List.length_take]; rfl)) ?_; (with_reducible refine (wageofficeref23_Parse.calls k js13 t125 t126 _ A15.out).mono ?_); rintro e w' ⟨rfl, ⟨nd, rfl⟩⟩; refine ⟨_, rfl, ?_⟩) | (go_at_call 12; (with_reducible refine (digest_Sum.calls js9 t127 _ A17.out).mono ?_); rintro e w47 ⟨rfl, hb⟩; have n0_ := Aside0.mk (below_step (by repeat (first | (with_reducible first | exact HB.out | apply below_alloc | apply pw_below_drewN | apply below_drew1) | exact HB.out)) hb); clear HB; have HB := n0_; clear n0_; (try clear hb); (try clear hb2); (try clear hk); (try clear hi)) | (go_at_call 13; (with_reducible refine (wageofficeref23_Sum.calls k js9 t128 _ A18.out).mono ?_); rintro e w' ⟨rfl, ⟨nd, rfl⟩⟩) | (go_at_call 14; (with_reducible refine (digest_Pair.calls a1 a2 t129 _ A20.out).mono ?_); rintro e w48 ⟨rfl, hb⟩; have n0_ := Aside0.mk (below_step (by repeat (first | (with_reducible first | exact HB.out | apply below_alloc | apply pw_below_drewN | apply below_drew1) | exact HB.out)) hb); clear HB; have HB := n0_; clear n0_; (try clear hb); (try clear hb2); (try clear hk); (try clear hi)) | (go_at_call 15; (with_reducible refine (wageofficeref23_Pair.calls k a1 a2 t130 _ A21.out).mono ?_); rintro e w49 ⟨rfl, hb⟩; have n0_ := Aside0.mk (below_step (by repeat (first | (with_reducible first | exact HB.out | apply below_alloc | apply pw_below_drewN | apply below_drew1) | exact HB.out)) hb); clear HB; have HB := n0_; clear n0_; (try clear hb); (try clear hb2); (try clear hk); (try clear hi)))
                go_ret
                exact ⟨by first | rfl | (simp [errW_none, errW_some] <;> rfl) | (simp only [← hji6, ← hjs9, ← hji10, ← hjs13]; first | rfl | (simp [errW_none, errW_some] <;> rfl)) | (simp [*, errW_none, errW_some] <;> rfl), by repeat (first | (with_reducible first | exact HB.out | apply below_alloc | apply pw_below_drewN | apply below_drew1) | exact HB.out)⟩
            · rw [if_neg c19] at H
              have c19b0 : (t127 == t128) = false := beq_eq_false_iff_ne.mpr c19
              have c19b1 : (t127 != t128) = true := bne_iff_ne.mpr c19
              obtain rfl := Option.some.inj H
              go_enter Tryd.func3, Tryd.ntmps3
              go_wp2_with (first | ((with_reducible refine gate_callee (f := 9) rfl ?_); refine goesL_ (some 16) rfl rfl Tryd.func9 (by kernel_rfl) rfl #[] rfl (by (try simp only [List.map_toArray, List.map_cons, List.map_nil]); first | done | rfl | (simp only [List.length_drop, List.length_take]; rfl)) ?_; (with_reducible refine (wageofficelaw23_head.calls k  true _ A5.out (TabHex.below hTHex.out (by repeat (first | (with_reducible first | exact HB.out | exact Below.refl _ _ | apply below_alloc | apply pw_below_drewN | apply below_drew1 | apply below_drew) | exact HB.out)))).mono ?_); rintro e w50 ⟨rfl, hb⟩; refine ⟨_, rfl, ?_⟩; have n0_ := Aside0.mk (below_step (by repeat (first | (with_reducible first | exact HB.out | apply below_alloc | apply pw_below_drewN | apply below_drew1) | exact HB.out)) hb); clear HB; have HB := n0_; clear n0_; (try clear hb); (try clear hb2); (try clear hk); (try clear hi)) | ((with_reducible refine gate_callee (f := 10) rfl ?_); refine goesL_ (some 31) rfl rfl Tryd.func10 (by kernel_rfl) rfl #[.string js13] rfl (by (try simp only [List.map_toArray, List.map_cons, List.map_nil]); first | done | rfl | (simp only [List.length_drop, List.length_take]; rfl)) ?_; (with_reducible refine (digest_Parse.calls js13 t123 t124 _ A14.out (TabHex.below hTHex.out (by repeat (first | (with_reducible first | exact HB.out | exact Below.refl _ _ | apply below_alloc | apply pw_below_drewN | apply below_drew1 | apply below_drew) | exact HB.out)))).mono ?_); rintro e w51 ⟨rfl, hb⟩; refine ⟨_, rfl, ?_⟩; have n0_ := Aside0.mk (below_step (by repeat (first | (with_reducible first | exact HB.out | apply below_alloc | apply pw_below_drewN | apply below_drew1) | exact HB.out)) hb); clear HB; have HB := n0_; clear n0_; (try clear hb); (try clear hb2); (try clear hk); (try clear hi)) | ((with_reducible refine gate_callee (f := 11) rfl ?_); refine goesL_ (some 36) rfl rfl Tryd.func11 (by kernel_rfl) rfl #[.string js13] rfl (by (try simp only [List.map_toArray, List.map_cons, List.map_nil]); first | done | rfl | (simp only [List.length_drop, List.length_take]; rfl)) ?_; (with_reducible refine (wageofficeref23_Parse.calls k js13 t125 t126 _ A15.out).mono ?_); rintro e w' ⟨rfl, ⟨nd, rfl⟩⟩; refine ⟨_, rfl, ?_⟩) | (go_at_call 12; (with_reducible refine (digest_Sum.calls js9 t127 _ A17.out).mono ?_); rintro e w52 ⟨rfl, hb⟩; have n0_ := Aside0.mk (below_step (by repeat (first | (with_reducible first | exact HB.out | apply below_alloc | apply pw_below_drewN | apply below_drew1) | exact HB.out)) hb); clear HB; have HB := n0_; clear n0_; (try clear hb); (try clear hb2); (try clear hk); (try clear hi)) | (go_at_call 13; (with_reducible refine (wageofficeref23_Sum.calls k js9 t128 _ A18.out).mono ?_); rintro e w' ⟨rfl, ⟨nd, rfl⟩⟩))
              go_ret
              exact ⟨by first | rfl | (simp [errW_none, errW_some] <;> rfl) | (simp only [← hji6, ← hjs9, ← hji10, ← hjs13]; first | rfl | (simp [errW_none, errW_some] <;> rfl)) | (simp [*, errW_none, errW_some] <;> rfl), by repeat (first | (with_reducible first | exact HB.out | apply below_alloc | apply pw_below_drewN | apply below_drew1) | exact HB.out)⟩
          · replace c16 := Bool.eq_false_iff.mpr c16
            subst c16
            have H1 : (some false) = some r := by rw [if_neg (show ¬ (false = true) by decide)] at H; exact H
            clear H
            have H := H1
            clear H1
            obtain rfl := Option.some.inj H
            go_enter Tryd.func3, Tryd.ntmps3
            go_wp2_with (first | ((with_reducible refine gate_callee (f := 9) rfl ?_); refine goesL_ (some 16) rfl rfl Tryd.func9 (by kernel_rfl) rfl #[] rfl (by (try simp only [List.map_toArray, List.map_cons, List.map_nil]); first | done | rfl | (simp only [List.length_drop, List.length_take]; rfl)) ?_; (with_reducible refine (wageofficelaw23_head.calls k  false _ A5.out (TabHex.below hTHex.out (by repeat (first | (with_reducible first | exact HB.out | exact Below.refl _ _ | apply below_alloc | apply pw_below_drewN | apply below_drew1 | apply below_drew) | exact HB.out)))).mono ?_); rintro e w53 ⟨rfl, hb⟩; refine ⟨_, rfl, ?_⟩; have n0_ := Aside0.mk (below_step (by repeat (first | (with_reducible first | exact HB.out | apply below_alloc | apply pw_below_drewN | apply below_drew1) | exact HB.out)) hb); clear HB; have HB := n0_; clear n0_; (try clear hb); (try clear hb2); (try clear hk); (try clear hi)) | ((with_reducible refine gate_callee (f := 10) rfl ?_); refine goesL_ (some 31) rfl rfl Tryd.func10 (by kernel_rfl) rfl #[.string js13] rfl (by (try simp only [List.map_toArray, List.map_cons, List.map_nil]); first | done | rfl | (simp only [List.length_drop, List.length_take]; rfl)) ?_; (with_reducible refine (digest_Parse.calls js13 t123 t124 _ A14.out (TabHex.below hTHex.out (by repeat (first | (with_reducible first | exact HB.out | exact Below.refl _ _ | apply below_alloc | apply pw_below_drewN | apply below_drew1 | apply below_drew) | exact HB.out)))).mono ?_); rintro e w54 ⟨rfl, hb⟩; refine ⟨_, rfl, ?_⟩; have n0_ := Aside0.mk (below_step (by repeat (first | (with_reducible first | exact HB.out | apply below_alloc | apply pw_below_drewN | apply below_drew1) | exact HB.out)) hb); clear HB; have HB := n0_; clear n0_; (try clear hb); (try clear hb2); (try clear hk); (try clear hi)) | ((with_reducible refine gate_callee (f := 11) rfl ?_); refine goesL_ (some 36) rfl rfl Tryd.func11 (by kernel_rfl) rfl #[.string js13] rfl (by (try simp only [List.map_toArray, List.map_cons, List.map_nil]); first | done | rfl | (simp only [List.length_drop, List.length_take]; rfl)) ?_; (with_reducible refine (wageofficeref23_Parse.calls k js13 t125 t126 _ A15.out).mono ?_); rintro e w' ⟨rfl, ⟨nd, rfl⟩⟩; refine ⟨_, rfl, ?_⟩))
            go_ret
            exact ⟨by first | rfl | (simp [errW_none, errW_some] <;> rfl) | (simp only [← hji6, ← hjs9, ← hji10, ← hjs13]; first | rfl | (simp [errW_none, errW_some] <;> rfl)) | (simp [*, errW_none, errW_some] <;> rfl), by repeat (first | (with_reducible first | exact HB.out | apply below_alloc | apply pw_below_drewN | apply below_drew1) | exact HB.out)⟩
        · rw [if_neg c12] at H
          exact absurd H (by simp)
      · rw [if_neg c11] at H
        exact absurd H (by simp)
    · rw [if_neg c8] at H
      exact absurd H (by simp)
  · rw [if_neg c7] at H
    exact absurd H (by simp)

/-- THE ONE PURE STATEMENT of wageofficelaw23_DigestMatchesReference: yours. -/
def wageofficelaw23_DigestMatchesReference.Pure : Prop := ∀ (a0 : ByteArray) (a1 : Int) (a2 : Int) (a3 : ByteArray), a0.size ≤ 140737488351232 → (Lit.int .u64 a1).wf = true → (Lit.int .u64 a2).wf = true → a3.size ≤ 140737488351232 → ∃ k, wageofficelaw23_DigestMatchesReference.f k a0 a1 a2 a3 = some true
/-! ### wageofficelaw23_pick: function 18 -/
def wageofficelaw23_pick.f (a0 : Int) (a1 : Int) : Option (Int) := if a0 < 0 then (if a1 = 0 then (none) else (some (Int.tmod (wrap64 (-(wrap64 (a0 + 1)))) a1))) else (if a1 = 0 then (none) else (some (Int.tmod a0 a1)))
set_option maxHeartbeats 8000000 in
set_option maxRecDepth 100000 in
theorem wageofficelaw23_pick.calls (a0 : Int) (a1 : Int) (r : Int) (w : World) (h : wageofficelaw23_pick.f a0 a1 = some r) :
    Calls Tryd.prog 18 #[.int .i64 a0, .int .i64 a1] w fun e w' => e = .returned (.int .i64 r) ∧ Drawn0 w w' := by
  have H : (if a0 < 0 then (if a1 = 0 then (none) else (some (Int.tmod (wrap64 (-(wrap64 (a0 + 1)))) a1))) else (if a1 = 0 then (none) else (some (Int.tmod a0 a1)))) = some r := h
  clear h
  by_cases c3 : a0 < 0
  · rw [if_pos c3] at H
    have c3b0 : decide (a0 < 0) = true := decide_eq_true c3
    clear c3
    by_cases c4 : a1 = 0
    · rw [if_pos c4] at H
      exact absurd H (by simp)
    · rw [if_neg c4] at H
      have c4b0 : (a1 == 0) = false := beq_eq_false_iff_ne.mpr c4
      have c4b1 : (a1 != 0) = true := bne_iff_ne.mpr c4
      obtain rfl := Option.some.inj H
      go_enter Tryd.func18, Tryd.ntmps18
      go_wp2
      go_ret
      exact ⟨by first | rfl | (simp; done) | (simp [*]; done), by repeat (first | exact Drawn0.refl _ | apply Drawn0.step)⟩
  · rw [if_neg c3] at H
    have c3b0 : decide (a0 < 0) = false := decide_eq_false c3
    clear c3
    by_cases c5 : a1 = 0
    · rw [if_pos c5] at H
      exact absurd H (by simp)
    · rw [if_neg c5] at H
      have c5b0 : (a1 == 0) = false := beq_eq_false_iff_ne.mpr c5
      have c5b1 : (a1 != 0) = true := bne_iff_ne.mpr c5
      obtain rfl := Option.some.inj H
      go_enter Tryd.func18, Tryd.ntmps18
      go_wp2
      go_ret
      exact ⟨by first | rfl | (simp; done) | (simp [*]; done), by repeat (first | exact Drawn0.refl _ | apply Drawn0.step)⟩

end Go.Proofs.YtjjfbcpfmdbblaaDoor.PAll
