-- Written by ext.py out of a printed text (myprint.py over the kit's print.py).
import Derived.Test.YtcikhbamdbphaaaStubHead
import Derived.Test.YtcikhbamdbphaaaPAllx0
import Derived.Test.YtcikhbamdbphaaaPAllx2
namespace Go.Proofs.Ytcikhbamdbphaaa.PAll
open Go.Proofs.Ytcikhbamdbphaaa.Stub
open Go.RowKit Go.Proofs.YtcikhbamdbphaaaW.PrintWords Go.Proofs.YtcikhbamdbphaaaW.PrintLast Go.Proofs.YtcikhbamdbphaaaW.PrintMore
attribute [local go_sem] max2_int min2_int max_two min_two max_three min_three max_four min_four   -- for this text's walks alone
set_option linter.unusedVariables false
set_option linter.unusedSimpArgs false

/-! ### wageofficelaw24_MerkleForms: function 6 -/
mutual
def wageofficelaw24_MerkleForms.j0 : Nat → List ByteArray → Int → Int → Bool → Bool → Int → Bool → Option (Bool)
  | 0, _, _, _, _, _, _, _ => none
  | k + 1, x0, x1, x2, x9, x27, x106000, x106001 => if x27 = true then (some x9) else (if (x0.length : Int) = 0 then (none) else ((merkle_Root.f x0).bind fun bt108 => ((merkle_Path.f x0 (Int.tmod (wrap64 (x1)) (x0.length : Int))).bind fun bt110 => (if bt110.2 = 0 then (wageofficelaw24_MerkleForms.j1 k x0 x2 x9 (x0.length : Int) (Int.tmod (wrap64 (x1)) (x0.length : Int)) bt108.1 bt110.1 (decide ((bt110.1.length : Int) > 20)) x106000 x106001) else (wageofficelaw24_MerkleForms.j1 k x0 x2 x9 (x0.length : Int) (Int.tmod (wrap64 (x1)) (x0.length : Int)) bt108.1 bt110.1 true x106000 x106001)))))
def wageofficelaw24_MerkleForms.j1 : Nat → List ByteArray → Int → Bool → Int → Int → Int → List (S42) → Bool → Int → Bool → Option (Bool)
  | 0, _, _, _, _, _, _, _, _, _, _ => none
  | k + 1, x0, x2, x9, x10, x11, x12, x14, x52, x106000, x106001 => if x52 = true then (some false) else ((some (([] : List (S42)) : List (S42))).bind fun y114 => (if y114.length + x14.length < 8796093022208 then ((some (y114 ++ x14 : List (S42))).bind fun y117 => ((some (([(⟨x106000, x106001⟩ : S42)] : List (S42)) : List (S42))).bind fun y120 => (if y117.length + y120.length < 8796093022208 then (if 0 ≤ x11 then (if x11 < (x0.length : Int) then ((merkle_Verify.f x12 x10 x11 (rdOf ByteArray.empty x0 x11) (y117 ++ y120)).bind fun t127 => (if t127 = true then (wageofficelaw24_MerkleForms.j2 k x0 x2 x9 x10 x11 x12 x14 true) else ((merkle_Verify.f x12 x10 x10 (rdOf ByteArray.empty x0 x11) x14).bind fun t129 => (if t129 = true then (wageofficelaw24_MerkleForms.j2 k x0 x2 x9 x10 x11 x12 x14 true) else ((merkle_Verify.f x12 x10 (-1) (rdOf ByteArray.empty x0 x11) x14).bind fun t131 => (if t131 = true then (wageofficelaw24_MerkleForms.j2 k x0 x2 x9 x10 x11 x12 x14 true) else ((merkle_Verify.f x12 0 0 (rdOf ByteArray.empty x0 x11) x14).bind fun t133 => (wageofficelaw24_MerkleForms.j2 k x0 x2 x9 x10 x11 x12 x14 t133)))))))) else (none)) else (none)) else (none)))) else (none)))
def wageofficelaw24_MerkleForms.j2 : Nat → List ByteArray → Int → Bool → Int → Int → Int → List (S42) → Bool → Option (Bool)
  | 0, _, _, _, _, _, _, _, _ => none
  | k + 1, x0, x2, x9, x10, x11, x12, x14, x97 => if x97 = true then (some false) else (if (x14.length : Int) = 0 then (some x9) else ((some (([] : List (S42)) : List (S42))).bind fun y134 => (if y134.length + x14.length < 8796093022208 then ((some (y134 ++ x14 : List (S42))).bind fun y137 => (if 0 ≤ (Int.tmod (wrap64 (x2)) (x14.length : Int)) then (if (Int.tmod (wrap64 (x2)) (x14.length : Int)) < (y137.length : Int) then (if x9 = true then (if 0 ≤ x11 then (if x11 < (x0.length : Int) then ((merkle_Verify.f x12 x10 x11 (rdOf ByteArray.empty x0 x11) (y137.set ((Int.tmod (wrap64 (x2)) (x14.length : Int)) : Int).toNat (⟨(rd_T42 y137 (Int.tmod (wrap64 (x2)) (x14.length : Int))).f0, !((rd_T42 y137 (Int.tmod (wrap64 (x2)) (x14.length : Int))).f1)⟩ : S42))).bind fun t143 => (if t143 = true then (some false) else (if 0 ≤ (wrap64 ((x14.length : Int) - 1)) then (if (wrap64 ((x14.length : Int) - 1)) ≤ (x14.length : Int) then ((merkle_Verify.f x12 x10 x11 (rdOf ByteArray.empty x0 x11) (x14.take ((wrap64 ((x14.length : Int) - 1)) : Int).toNat)).bind fun t149 => (some (!t149))) else (none)) else (none)))) else (none)) else (none)) else (some false)) else (none)) else (none))) else (none))))
end
def wageofficelaw24_MerkleForms.f (k : Nat) (l0 : List ByteArray) (a1 : Int) (a2 : Int) (a3_0 : Int) (a3_1 : Bool) : Option (Bool) := (wageofficelaw24_head.f).bind fun t106 => ((wageofficelaw24_small.f k l0).bind fun t107 => (if t107 = true then (wageofficelaw24_MerkleForms.j0 k l0 a1 a2 t106 ((l0.length : Int) == 0) a3_0 a3_1) else (wageofficelaw24_MerkleForms.j0 k l0 a1 a2 t106 true a3_0 a3_1)))
theorem wageofficelaw24_MerkleForms.mono_l : ∀ k, (∀ y0 y1 y2 y3 y4 y5 y6, LeO (wageofficelaw24_MerkleForms.j0 k y0 y1 y2 y3 y4 y5 y6) (wageofficelaw24_MerkleForms.j0 (k + 1) y0 y1 y2 y3 y4 y5 y6)) ∧ (∀ y0 y1 y2 y3 y4 y5 y6 y7 y8 y9, LeO (wageofficelaw24_MerkleForms.j1 k y0 y1 y2 y3 y4 y5 y6 y7 y8 y9) (wageofficelaw24_MerkleForms.j1 (k + 1) y0 y1 y2 y3 y4 y5 y6 y7 y8 y9)) ∧ (∀ y0 y1 y2 y3 y4 y5 y6 y7, LeO (wageofficelaw24_MerkleForms.j2 k y0 y1 y2 y3 y4 y5 y6 y7) (wageofficelaw24_MerkleForms.j2 (k + 1) y0 y1 y2 y3 y4 y5 y6 y7))
  | 0 => ⟨fun _ _ _ _ _ _ _ r h => by simp [wageofficelaw24_MerkleForms.j0] at h, fun _ _ _ _ _ _ _ _ _ _ r h => by simp [wageofficelaw24_MerkleForms.j1] at h, fun _ _ _ _ _ _ _ _ r h => by simp [wageofficelaw24_MerkleForms.j2] at h⟩
  | k + 1 => by
    obtain ⟨ih0, ih1, ih2⟩ := wageofficelaw24_MerkleForms.mono_l k
    refine ⟨?_, ?_, ?_⟩
    · intro y0 y1 y2 y3 y4 y5 y6
      unfold wageofficelaw24_MerkleForms.j0
      repeat' first
      | (with_reducible exact ih0 _ _ _ _ _ _ _)
      | (with_reducible exact ih1 _ _ _ _ _ _ _ _ _ _)
      | (with_reducible exact ih2 _ _ _ _ _ _ _ _)
      | (with_reducible exact wageofficelaw24_small.mono _ _)
      | (with_reducible exact LeO.refl _)
      | (with_reducible exact LeO.none _)
      | (with_reducible refine LeO.ite ?_ ?_)
      | (with_reducible refine LeO.bind ?_ (fun _ => ?_))
      | exact ih0 _ _ _ _ _ _ _
      | exact ih1 _ _ _ _ _ _ _ _ _ _
      | exact ih2 _ _ _ _ _ _ _ _
      | exact wageofficelaw24_small.mono _ _
      | exact LeO.none _
      | refine LeO.ite ?_ ?_
      | refine LeO.bind ?_ (fun _ => ?_)
    · intro y0 y1 y2 y3 y4 y5 y6 y7 y8 y9
      unfold wageofficelaw24_MerkleForms.j1
      repeat' first
      | (with_reducible exact ih0 _ _ _ _ _ _ _)
      | (with_reducible exact ih1 _ _ _ _ _ _ _ _ _ _)
      | (with_reducible exact ih2 _ _ _ _ _ _ _ _)
      | (with_reducible exact wageofficelaw24_small.mono _ _)
      | (with_reducible exact LeO.refl _)
      | (with_reducible exact LeO.none _)
      | (with_reducible refine LeO.ite ?_ ?_)
      | (with_reducible refine LeO.bind ?_ (fun _ => ?_))
      | exact ih0 _ _ _ _ _ _ _
      | exact ih1 _ _ _ _ _ _ _ _ _ _
      | exact ih2 _ _ _ _ _ _ _ _
      | exact wageofficelaw24_small.mono _ _
      | exact LeO.none _
      | refine LeO.ite ?_ ?_
      | refine LeO.bind ?_ (fun _ => ?_)
    · intro y0 y1 y2 y3 y4 y5 y6 y7
      unfold wageofficelaw24_MerkleForms.j2
      repeat' first
      | (with_reducible exact ih0 _ _ _ _ _ _ _)
      | (with_reducible exact ih1 _ _ _ _ _ _ _ _ _ _)
      | (with_reducible exact ih2 _ _ _ _ _ _ _ _)
      | (with_reducible exact wageofficelaw24_small.mono _ _)
      | (with_reducible exact LeO.refl _)
      | (with_reducible exact LeO.none _)
      | (with_reducible refine LeO.ite ?_ ?_)
      | (with_reducible refine LeO.bind ?_ (fun _ => ?_))
      | exact ih0 _ _ _ _ _ _ _
      | exact ih1 _ _ _ _ _ _ _ _ _ _
      | exact ih2 _ _ _ _ _ _ _ _
      | exact wageofficelaw24_small.mono _ _
      | exact LeO.none _
      | refine LeO.ite ?_ ?_
      | refine LeO.bind ?_ (fun _ => ?_)
theorem wageofficelaw24_MerkleForms.mono : ∀ a0 a1 a2 a3 a4 k, LeO (wageofficelaw24_MerkleForms.f k a0 a1 a2 a3 a4) (wageofficelaw24_MerkleForms.f (k + 1) a0 a1 a2 a3 a4) := by
  intro a0 a1 a2 a3 a4 k
  obtain ⟨ih0, ih1, ih2⟩ := wageofficelaw24_MerkleForms.mono_l k
  unfold wageofficelaw24_MerkleForms.f
  repeat' first
      | (with_reducible exact ih0 _ _ _ _ _ _ _)
      | (with_reducible exact ih1 _ _ _ _ _ _ _ _ _ _)
      | (with_reducible exact ih2 _ _ _ _ _ _ _ _)
      | (with_reducible exact wageofficelaw24_small.mono _ _)
      | (with_reducible exact LeO.refl _)
      | (with_reducible exact LeO.none _)
      | (with_reducible refine LeO.ite ?_ ?_)
      | (with_reducible refine LeO.bind ?_ (fun _ => ?_))
      | exact ih0 _ _ _ _ _ _ _
      | exact ih1 _ _ _ _ _ _ _ _ _ _
      | exact ih2 _ _ _ _ _ _ _ _
      | exact wageofficelaw24_small.mono _ _
      | exact LeO.none _
      | refine LeO.ite ?_ ?_
      | refine LeO.bind ?_ (fun _ => ?_)
def wageofficelaw24_MerkleForms.T18 : Bool × List (List Nat × List Nat) := (true, [([], []), ([0], [0]), ([1], [1]), ([1], [1]), ([1], [1]), ([1], [1]), ([1], [1]), ([5, 6, 1], [1, 5, 6]), ([7, 1], [1, 7]), ([1], [1]), ([2, 3, 4, 8, 9, 1, 1], [1, 2, 3, 4, 8, 9]), ([10, 1], [1, 10]), ([1, 11], [1, 11]), ([12, 10], [12]), ([13], [13]), ([13], [13]), ([13], [13]), ([13], [13]), ([13], [13]), ([17, 18, 13], [13, 17, 18]), ([19, 13], [13, 19]), ([13], [13]), ([13], [13]), ([22, 13], [13, 22]), ([23, 13], [13, 23]), ([21, 24, 13], [13, 21, 24]), ([14, 15, 16, 20, 25, 13, 13], [13, 14, 15, 16, 20, 25]), ([26, 13], [13, 26]), ([13, 27], [13, 27]), ([28, 26, 0, 1, 2, 3, 4, 5, 6, 7, 8, 9, 10, 11, 12, 13, 14, 15, 16, 17, 18, 19, 20, 21, 22, 23, 24, 25, 26, 27, 28], [28])])
def wageofficelaw24_MerkleForms.B18 : List Nat := [0, 1, 3, 3, 3, 3, 3, 99, 227, 3, 1023, 2047, 4095, 8191, 16383, 16383, 16383, 16383, 16383, 409599, 933887, 16383, 16383, 4210687, 12599295, 31473663, 67108863, 134217727, 268435455, 536870911]
theorem wageofficelaw24_MerkleForms.tab18 : rtab .any (opsOf Try.f6 18) = wageofficelaw24_MerkleForms.T18 := by kernel_rfl
theorem wageofficelaw24_MerkleForms.bits18 : waitsOk wageofficelaw24_MerkleForms.T18.2 wageofficelaw24_MerkleForms.B18 = true := by kernel_rfl
set_option maxHeartbeats 8000000 in
set_option maxRecDepth 100000 in
theorem wageofficelaw24_MerkleForms.calls (k : Nat) (A0 : Option Addr) (c0 : Nat) (l0 : List ByteArray) (a1 : Int) (a2 : Int) (a3_0 : Int) (a3_1 : Bool) (r : Bool) (w : World) (hr0 : Kd.C Kd.string w A0 l0.length l0) (hc0 : l0.length ≤ c0) (h : wageofficelaw24_MerkleForms.f k l0 a1 a2 a3_0 a3_1 = some r) :
    Calls Try.prog 6 #[.slice A0 l0.length c0, .int .u8 a1, .int .u8 a2, .agg #[.int .u64 a3_0, .bool a3_1]] w fun e w' => e = .returned (.bool r) ∧ Below w.heap.size w w' := by
  have hu42 := Try.underlying42
  have HR0 := Aside0.mk hr0
  have HC0 := Aside0.mk hc0
  clear hr0 hc0
  have HB := Aside0.mk (Below.refl w.heap.size w)
  have H : ((wageofficelaw24_head.f).bind fun t106 => ((wageofficelaw24_small.f k l0).bind fun t107 => (if t107 = true then (wageofficelaw24_MerkleForms.j0 k l0 a1 a2 t106 ((l0.length : Int) == 0) a3_0 a3_1) else (wageofficelaw24_MerkleForms.j0 k l0 a1 a2 t106 true a3_0 a3_1)))) = some r := h
  clear h
  replace H := Option.bind_eq_some_iff.mp H
  obtain ⟨t106, A50, H⟩ := H
  replace H : ((wageofficelaw24_small.f k l0).bind fun t107 => (if t107 = true then (wageofficelaw24_MerkleForms.j0 k l0 a1 a2 t106 ((l0.length : Int) == 0) a3_0 a3_1) else (wageofficelaw24_MerkleForms.j0 k l0 a1 a2 t106 true a3_0 a3_1))) = some r := H
  have A5 := Aside0.mk A50
  clear A50
  have HC6 := Aside0.mk H
  clear H
  go_enter Try.func6, Try.ntmps6
  go_upto_region 2 with (first | ((with_reducible refine gate_dst (N := 7) rfl ?_); (try (refine gate_guard (by rfl) ?_; dsimp only)); refine box_event ?hg (N := 7) ?hd (cs := #[.int .u64 a3_0, .bool a3_1]) (t := 42) ?hr ?_; (case hd => rfl); (case hg => rfl); (case hr => first | (go_simp; done) | (go_simp; rfl)); intro gb105 hg w7 hbox hb; have n0_ := Aside0.mk (below_step (by repeat (first | (with_reducible first | exact HB.out | apply below_alloc | apply pw_below_drewN | apply below_drew1) | exact HB.out)) hb); have n1_ := Aside0.mk (hbox); have n2_ := Aside0.mk ((by rw [hg]; exact (below_size (by repeat (first | (with_reducible first | exact HB.out | apply below_alloc | apply pw_below_drewN | apply below_drew1) | exact HB.out))) : w.heap.size ≤ gb105)); have n3_ := Aside0.mk ((by rw [hg]; exact (below_size (by repeat (first | (with_reducible first | exact HB.out | apply below_alloc | apply pw_below_drewN | apply below_drew1) | exact HB.out))) : w.heap.size ≤ gb105)); clear HB; have HB := n0_; have BK105 := n1_; have GW105 := n2_; have GE105 := n3_; clear n0_ n1_ n2_ n3_; clear hb hbox hg) | ((with_reducible refine gate_callee (f := 11) rfl ?_); refine goesL_ (some 19) rfl rfl Try.func11 (by kernel_rfl) rfl #[] rfl (by (try simp only [List.map_toArray, List.map_cons, List.map_nil]); first | done | rfl | (simp only [List.length_drop, List.length_take]; rfl)) ?_; (with_reducible refine (wageofficelaw24_head.calls  t106 _ A5.out).mono ?_); rintro e w8 ⟨rfl, hb⟩; refine ⟨_, rfl, ?_⟩; have n0_ := Aside0.mk (blk_below (g := gb105) (o := .cells #[.int .u64 a3_0, .bool a3_1] 42 (0, 0)) (by (with_reducible repeat (first | refine blk_drewN ?_ _ | refine blk_drew ?_ | refine blk_alloc ?_ _)); exact BK105.out) hb); have n1_ := Aside0.mk (below_step (by repeat (first | (with_reducible first | exact HB.out | apply below_alloc | apply pw_below_drewN | apply below_drew1 | refine below_set ?_ GE105.out) | exact HB.out)) hb); clear BK105; clear HB; have BK105 := n0_; have HB := n1_; clear n0_ n1_; (try clear hb); (try clear hb2); (try clear hk); (try clear hi)))
  (try simp only [Act.put, List.setIfInBounds_toArray, List.set_cons_zero, List.set_cons_succ])
  go_cut [27] (fun v27 wc => ∃ (kq : Nat) (x27_5 : Bool), v27 = .bool x27_5 ∧ Aside0 (wageofficelaw24_MerkleForms.j0 kq l0 a1 a2 t106 x27_5 a3_0 a3_1 = some r) ∧ Aside0 (kq ≤ k) ∧ Aside0 (wc.heap[gb105]? = some (.cells #[.int .u64 a3_0, .bool a3_1] 42 (0, 0))) ∧ Aside0 (Below w.heap.size w wc))
  case first =>
    have H := HC6.out
    clear HC6
    replace H := Option.bind_eq_some_iff.mp H
    obtain ⟨t107, A90, H⟩ := H
    replace H : (if t107 = true then (wageofficelaw24_MerkleForms.j0 k l0 a1 a2 t106 ((l0.length : Int) == 0) a3_0 a3_1) else (wageofficelaw24_MerkleForms.j0 k l0 a1 a2 t106 true a3_0 a3_1)) = some r := H
    have A9 := Aside0.mk A90
    clear A90
    by_cases c10 : t107 = true
    · subst c10
      have H1 : (wageofficelaw24_MerkleForms.j0 k l0 a1 a2 t106 ((l0.length : Int) == 0) a3_0 a3_1) = some r := by rw [if_pos rfl] at H; exact H
      clear H
      have H := H1
      clear H1
      have H' := Aside0.mk H
      clear H
      go_wp2_with (first | ((with_reducible refine gate_callee (f := 12) rfl ?_); refine goesL_ (some 21) rfl rfl Try.func12 (by kernel_rfl) rfl #[.slice A0 l0.length c0] rfl (by (try simp only [List.map_toArray, List.map_cons, List.map_nil]); first | done | rfl | (simp only [List.length_drop, List.length_take]; rfl)) ?_; (with_reducible refine (wageofficelaw24_small.calls k _ _ l0 true _ ?side1 ?side2 A9.out).mono ?_); (case side1 => repeat (first | exact (Kd.C_below HR0.out HB.out) | (with_reducible refine Kd.C_alloc ?_ _) | (with_reducible refine Kd.C_drewN ?_ _) | (with_reducible refine Kd.C_drew ?_))); (case side2 => exact HC0.out); rintro e w' ⟨rfl, ⟨nd, rfl⟩⟩; refine ⟨_, rfl, ?_⟩))
      go_meet
      case rel => exact ⟨_, (((l0.length : Int) == 0)), (by first | rfl | (simp; done) | (simp [*]; done)), H', ⟨by first | omega | exact Nat.le_refl _⟩, ⟨by (with_reducible repeat (first | refine blk_drewN ?_ _ | refine blk_drew ?_ | refine blk_alloc ?_ _)); exact BK105.out⟩, ⟨by repeat (first | (with_reducible first | exact HB.out | apply below_alloc | apply pw_below_drewN | apply below_drew1 | refine below_set ?_ GE105.out) | exact HB.out)⟩⟩
    · replace c10 := Bool.eq_false_iff.mpr c10
      subst c10
      have H1 : (wageofficelaw24_MerkleForms.j0 k l0 a1 a2 t106 true a3_0 a3_1) = some r := by rw [if_neg (show ¬ (false = true) by decide)] at H; exact H
      clear H
      have H := H1
      clear H1
      have H' := Aside0.mk H
      clear H
      go_wp2_with (first | ((with_reducible refine gate_callee (f := 12) rfl ?_); refine goesL_ (some 21) rfl rfl Try.func12 (by kernel_rfl) rfl #[.slice A0 l0.length c0] rfl (by (try simp only [List.map_toArray, List.map_cons, List.map_nil]); first | done | rfl | (simp only [List.length_drop, List.length_take]; rfl)) ?_; (with_reducible refine (wageofficelaw24_small.calls k _ _ l0 false _ ?side1 ?side2 A9.out).mono ?_); (case side1 => repeat (first | exact (Kd.C_below HR0.out HB.out) | (with_reducible refine Kd.C_alloc ?_ _) | (with_reducible refine Kd.C_drewN ?_ _) | (with_reducible refine Kd.C_drew ?_))); (case side2 => exact HC0.out); rintro e w' ⟨rfl, ⟨nd, rfl⟩⟩; refine ⟨_, rfl, ?_⟩))
      go_meet
      case rel => exact ⟨_, (true), (by first | rfl | (simp; done) | (simp [*]; done)), H', ⟨by first | omega | exact Nat.le_refl _⟩, ⟨by (with_reducible repeat (first | refine blk_drewN ?_ _ | refine blk_drew ?_ | refine blk_alloc ?_ _)); exact BK105.out⟩, ⟨by repeat (first | (with_reducible first | exact HB.out | apply below_alloc | apply pw_below_drewN | apply below_drew1 | refine below_set ?_ GE105.out) | exact HB.out)⟩⟩
  case rest =>
    clear HC6
    try clear c1
    try clear p2
    try clear c6
    try clear c10
    obtain ⟨kq, x27_5, rfl, HA, HJ5, BK105, HB⟩ := hcut
    cases kq with
    | zero => exact absurd HA.out (by simp [wageofficelaw24_MerkleForms.j0])
    | succ kj5 =>
      have H := HA.out
      clear HA
      simp only [wageofficelaw24_MerkleForms.j0] at H
      by_cases c11 : x27_5 = true
      · subst c11
        have H1 : (some t106) = some r := by rw [if_pos rfl] at H; exact H
        clear H
        have H := H1
        clear H1
        obtain rfl := Option.some.inj H
        go_wp2
        go_ret
        exact ⟨by first | rfl | (simp [errW_none, errW_some] <;> rfl) | (simp [*, errW_none, errW_some] <;> rfl), by repeat (first | (with_reducible first | exact HB.out | apply below_alloc | apply pw_below_drewN | apply below_drew1 | refine below_set ?_ GE105.out) | exact HB.out)⟩
      · replace c11 := Bool.eq_false_iff.mpr c11
        subst c11
        have H1 : (if (l0.length : Int) = 0 then (none) else ((merkle_Root.f l0).bind fun bt108 => ((merkle_Path.f l0 (Int.tmod (wrap64 (a1)) (l0.length : Int))).bind fun bt110 => (if bt110.2 = 0 then (wageofficelaw24_MerkleForms.j1 kj5 l0 a2 t106 (l0.length : Int) (Int.tmod (wrap64 (a1)) (l0.length : Int)) bt108.1 bt110.1 (decide ((bt110.1.length : Int) > 20)) a3_0 a3_1) else (wageofficelaw24_MerkleForms.j1 kj5 l0 a2 t106 (l0.length : Int) (Int.tmod (wrap64 (a1)) (l0.length : Int)) bt108.1 bt110.1 true a3_0 a3_1))))) = some r := by rw [if_neg (show ¬ (false = true) by decide)] at H; exact H
        clear H
        have H := H1
        clear H1
        by_cases c12 : (l0.length : Int) = 0
        · rw [if_pos c12] at H
          exact absurd H (by simp)
        · rw [if_neg c12] at H
          have c12b0 : ((l0.length : Int) == 0) = false := beq_eq_false_iff_ne.mpr c12
          have c12b1 : ((l0.length : Int) != 0) = true := bne_iff_ne.mpr c12
          have c12b2 : ¬ (l0 = []) := fun h_ => c12 (by rw [h_]; rfl)
          replace H := Option.bind_eq_some_iff.mp H
          obtain ⟨⟨t108, t109⟩, A130, H⟩ := H
          replace H : ((merkle_Path.f l0 (Int.tmod (wrap64 (a1)) (l0.length : Int))).bind fun bt110 => (if bt110.2 = 0 then (wageofficelaw24_MerkleForms.j1 kj5 l0 a2 t106 (l0.length : Int) (Int.tmod (wrap64 (a1)) (l0.length : Int)) t108 bt110.1 (decide ((bt110.1.length : Int) > 20)) a3_0 a3_1) else (wageofficelaw24_MerkleForms.j1 kj5 l0 a2 t106 (l0.length : Int) (Int.tmod (wrap64 (a1)) (l0.length : Int)) t108 bt110.1 true a3_0 a3_1))) = some r := H
          have A13 := Aside0.mk A130
          clear A130
          replace H := Option.bind_eq_some_iff.mp H
          obtain ⟨⟨t110, t111⟩, A140, H⟩ := H
          replace H : (if t111 = 0 then (wageofficelaw24_MerkleForms.j1 kj5 l0 a2 t106 (l0.length : Int) (Int.tmod (wrap64 (a1)) (l0.length : Int)) t108 t110 (decide ((t110.length : Int) > 20)) a3_0 a3_1) else (wageofficelaw24_MerkleForms.j1 kj5 l0 a2 t106 (l0.length : Int) (Int.tmod (wrap64 (a1)) (l0.length : Int)) t108 t110 true a3_0 a3_1)) = some r := H
          have A14 := Aside0.mk A140
          clear A140
          have HC15 := Aside0.mk H
          clear H
          go_upto_region 8 with (first | ((with_reducible refine gate_callee (f := 13) rfl ?_); refine goesL_ (some 37) rfl rfl Try.func13 (by kernel_rfl) rfl #[.slice A0 l0.length c0] rfl (by (try simp only [List.map_toArray, List.map_cons, List.map_nil]); first | done | rfl | (simp only [List.length_drop, List.length_take]; rfl)) ?_; (with_reducible refine (merkle_Root.calls _ _ l0 t108 t109 _ ?side1 ?side2 A13.out).mono ?_); (case side1 => repeat (first | exact (Kd.C_below HR0.out HB.out) | (with_reducible refine Kd.C_alloc ?_ _) | (with_reducible refine Kd.C_drewN ?_ _) | (with_reducible refine Kd.C_drew ?_))); (case side2 => exact HC0.out); rintro e w16 ⟨rfl, hb⟩; refine ⟨_, rfl, ?_⟩; have n0_ := Aside0.mk (blk_below (g := gb105) (o := .cells #[.int .u64 a3_0, .bool a3_1] 42 (0, 0)) (by (with_reducible repeat (first | refine blk_drewN ?_ _ | refine blk_drew ?_ | refine blk_alloc ?_ _)); exact BK105.out) hb); have n1_ := Aside0.mk (below_step (by repeat (first | (with_reducible first | exact HB.out | apply below_alloc | apply pw_below_drewN | apply below_drew1 | refine below_set ?_ GE105.out) | exact HB.out)) hb); clear BK105; clear HB; have BK105 := n0_; have HB := n1_; clear n0_ n1_; (try clear hb); (try clear hb2); (try clear hk); (try clear hi)) | ((with_reducible refine gate_callee (f := 15) rfl ?_); refine goesL_ (some 43) rfl rfl Try.func15 (by kernel_rfl) rfl #[.slice A0 l0.length c0, .int .i64 (Int.tmod (wrap64 (a1)) (l0.length : Int))] rfl (by (try simp only [List.map_toArray, List.map_cons, List.map_nil]); first | done | rfl | (simp only [List.length_drop, List.length_take]; rfl)) ?_; (with_reducible refine (merkle_Path.calls _ _ l0 (Int.tmod (wrap64 (a1)) (l0.length : Int)) t110 t111 _ ?side1 ?side2 A14.out).mono ?_); (case side1 => repeat (first | exact (Kd.C_below HR0.out HB.out) | (with_reducible refine Kd.C_alloc ?_ _) | (with_reducible refine Kd.C_drewN ?_ _) | (with_reducible refine Kd.C_drew ?_))); (case side2 => exact HC0.out); rintro e w17 ⟨v112, rfl, ho0, hb⟩; refine ⟨_, rfl, ?_⟩; have n0_ := Aside0.mk (Kd.R_lower (Kd.R_newB ho0 (g := gb105) (o := .cells #[.int .u64 a3_0, .bool a3_1] 42 (0, 0)) (by (with_reducible repeat (first | refine blk_drewN ?_ _ | refine blk_drew ?_ | refine blk_alloc ?_ _)); exact BK105.out)) (below_size (by repeat (first | (with_reducible first | exact HB.out | apply below_alloc | apply pw_below_drewN | apply below_drew1 | refine below_set ?_ GE105.out) | exact HB.out)))); have n1_ := Aside0.mk (blk_below (g := gb105) (o := .cells #[.int .u64 a3_0, .bool a3_1] 42 (0, 0)) (by (with_reducible repeat (first | refine blk_drewN ?_ _ | refine blk_drew ?_ | refine blk_alloc ?_ _)); exact BK105.out) hb); have n2_ := Aside0.mk (below_step (by repeat (first | (with_reducible first | exact HB.out | apply below_alloc | apply pw_below_drewN | apply below_drew1 | refine below_set ?_ GE105.out) | exact HB.out)) hb); clear BK105; clear HB; have HO113 := n0_; have BK105 := n1_; have HB := n2_; clear n0_ n1_ n2_; (try clear hb); (try clear hb2); (try clear hk); (try clear hi); (try clear ho0)))
          (try simp only [Act.put, List.setIfInBounds_toArray, List.set_cons_zero, List.set_cons_succ])
          go_cut [52] (fun v52 wc => ∃ (kq : Nat) (x52_14 : Bool), v52 = .bool x52_14 ∧ Aside0 (wageofficelaw24_MerkleForms.j1 kq l0 a2 t106 (l0.length : Int) (Int.tmod (wrap64 (a1)) (l0.length : Int)) t108 t110 x52_14 a3_0 a3_1 = some r) ∧ Aside0 (kq ≤ kj5) ∧ Aside0 (Kd.R k42 42 wc w.heap.size (fun k_ => k_ ≠ gb105) v112 t110) ∧ Aside0 (wc.heap[gb105]? = some (.cells #[.int .u64 a3_0, .bool a3_1] 42 (0, 0))) ∧ Aside0 (Below w.heap.size w wc))
          case first =>
            have H := HC15.out
            clear HC15
            by_cases c18 : t111 = 0
            · rw [if_pos c18] at H
              have c18b0 : (t111 == 0) = true := beq_iff_eq.mpr c18
              have c18b1 : (t111 != 0) = false := bne_eq_false_iff_eq.mpr c18
              clear c18
              (first | rw [c18b0] | (simp only [i64_w, i32_w]; rw [c18b0]) | skip)
              have H' := Aside0.mk H
              clear H
              obtain ⟨Ao19, co19, eo19⟩ := Kd.R_slice HO113.out
              subst eo19
              go_wp2
              go_meet
              case rel => exact ⟨_, (decide ((t110.length : Int) > 20)), (by first | rfl | (simp; done) | (simp [*]; done)), H', ⟨by have := HJ5.out; first | omega | exact Nat.le_refl _⟩, ⟨by (with_reducible repeat (first | apply Kd.R_alloc | apply Kd.R_drewN | apply Kd.R_drew)); exact Kd.R_mono HO113.out (fun _ hk => hk.2)⟩, ⟨by (with_reducible repeat (first | refine blk_drewN ?_ _ | refine blk_drew ?_ | refine blk_alloc ?_ _)); exact BK105.out⟩, ⟨by repeat (first | (with_reducible first | exact HB.out | apply below_alloc | apply pw_below_drewN | apply below_drew1 | refine below_set ?_ GE105.out) | exact HB.out)⟩⟩
            · rw [if_neg c18] at H
              have c18b0 : (t111 == 0) = false := beq_eq_false_iff_ne.mpr c18
              have c18b1 : (t111 != 0) = true := bne_iff_ne.mpr c18
              (first | rw [c18b0] | (simp only [i64_w, i32_w]; rw [c18b0]) | skip)
              have H' := Aside0.mk H
              clear H
              go_wp2
              go_meet
              case rel => exact ⟨_, (true), (by first | rfl | (simp; done) | (simp [*]; done)), H', ⟨by have := HJ5.out; first | omega | exact Nat.le_refl _⟩, ⟨by (with_reducible repeat (first | apply Kd.R_alloc | apply Kd.R_drewN | apply Kd.R_drew)); exact Kd.R_mono HO113.out (fun _ hk => hk.2)⟩, ⟨by (with_reducible repeat (first | refine blk_drewN ?_ _ | refine blk_drew ?_ | refine blk_alloc ?_ _)); exact BK105.out⟩, ⟨by repeat (first | (with_reducible first | exact HB.out | apply below_alloc | apply pw_below_drewN | apply below_drew1 | refine below_set ?_ GE105.out) | exact HB.out)⟩⟩
          case rest =>
            clear HC15
            try clear c1
            try clear p2
            try clear c6
            try clear p6
            try clear c10
            try clear c11
            try clear c12
            try clear c12b0
            try clear c12b1
            try clear c12b2
            try clear c13
            try clear c15
            try clear c18
            try clear c18b0
            try clear c18b1
            try clear p2
            obtain ⟨kq, x52_14, rfl, HA, HJ14, HO_14, BK105, HB⟩ := hcut
            cases kq with
            | zero => exact absurd HA.out (by simp [wageofficelaw24_MerkleForms.j1])
            | succ kj14 =>
              have H := HA.out
              clear HA
              simp only [wageofficelaw24_MerkleForms.j1] at H
              by_cases c20 : x52_14 = true
              · subst c20
                have H1 : (some false) = some r := by rw [if_pos rfl] at H; exact H
                clear H
                have H := H1
                clear H1
                obtain rfl := Option.some.inj H
                go_wp2
                go_ret
                exact ⟨by first | rfl | (simp [errW_none, errW_some] <;> rfl) | (simp [*, errW_none, errW_some] <;> rfl), by repeat (first | (with_reducible first | exact HB.out | apply below_alloc | apply pw_below_drewN | apply below_drew1 | refine below_set ?_ GE105.out) | exact HB.out)⟩
              · replace c20 := Bool.eq_false_iff.mpr c20
                subst c20
                have H1 : ((some (([] : List (S42)) : List (S42))).bind fun y114 => (if y114.length + t110.length < 8796093022208 then ((some (y114 ++ t110 : List (S42))).bind fun y117 => ((some (([(⟨a3_0, a3_1⟩ : S42)] : List (S42)) : List (S42))).bind fun y120 => (if y117.length + y120.length < 8796093022208 then (if 0 ≤ (Int.tmod (wrap64 (a1)) (l0.length : Int)) then (if (Int.tmod (wrap64 (a1)) (l0.length : Int)) < (l0.length : Int) then ((merkle_Verify.f t108 (l0.length : Int) (Int.tmod (wrap64 (a1)) (l0.length : Int)) (rdOf ByteArray.empty l0 (Int.tmod (wrap64 (a1)) (l0.length : Int))) (y117 ++ y120)).bind fun t127 => (if t127 = true then (wageofficelaw24_MerkleForms.j2 kj14 l0 a2 t106 (l0.length : Int) (Int.tmod (wrap64 (a1)) (l0.length : Int)) t108 t110 true) else ((merkle_Verify.f t108 (l0.length : Int) (l0.length : Int) (rdOf ByteArray.empty l0 (Int.tmod (wrap64 (a1)) (l0.length : Int))) t110).bind fun t129 => (if t129 = true then (wageofficelaw24_MerkleForms.j2 kj14 l0 a2 t106 (l0.length : Int) (Int.tmod (wrap64 (a1)) (l0.length : Int)) t108 t110 true) else ((merkle_Verify.f t108 (l0.length : Int) (-1) (rdOf ByteArray.empty l0 (Int.tmod (wrap64 (a1)) (l0.length : Int))) t110).bind fun t131 => (if t131 = true then (wageofficelaw24_MerkleForms.j2 kj14 l0 a2 t106 (l0.length : Int) (Int.tmod (wrap64 (a1)) (l0.length : Int)) t108 t110 true) else ((merkle_Verify.f t108 0 0 (rdOf ByteArray.empty l0 (Int.tmod (wrap64 (a1)) (l0.length : Int))) t110).bind fun t133 => (wageofficelaw24_MerkleForms.j2 kj14 l0 a2 t106 (l0.length : Int) (Int.tmod (wrap64 (a1)) (l0.length : Int)) t108 t110 t133)))))))) else (none)) else (none)) else (none)))) else (none))) = some r := by rw [if_neg (show ¬ (false = true) by decide)] at H; exact H
                clear H
                have H := H1
                clear H1
                obtain ⟨y114, hy114⟩ : ∃ y_ : List (S42), y_ = (([] : List (S42))) := ⟨_, rfl⟩
                replace H : (if y114.length + t110.length < 8796093022208 then ((some (y114 ++ t110 : List (S42))).bind fun y117 => ((some (([(⟨a3_0, a3_1⟩ : S42)] : List (S42)) : List (S42))).bind fun y120 => (if y117.length + y120.length < 8796093022208 then (if 0 ≤ (Int.tmod (wrap64 (a1)) (l0.length : Int)) then (if (Int.tmod (wrap64 (a1)) (l0.length : Int)) < (l0.length : Int) then ((merkle_Verify.f t108 (l0.length : Int) (Int.tmod (wrap64 (a1)) (l0.length : Int)) (rdOf ByteArray.empty l0 (Int.tmod (wrap64 (a1)) (l0.length : Int))) (y117 ++ y120)).bind fun t127 => (if t127 = true then (wageofficelaw24_MerkleForms.j2 kj14 l0 a2 t106 (l0.length : Int) (Int.tmod (wrap64 (a1)) (l0.length : Int)) t108 t110 true) else ((merkle_Verify.f t108 (l0.length : Int) (l0.length : Int) (rdOf ByteArray.empty l0 (Int.tmod (wrap64 (a1)) (l0.length : Int))) t110).bind fun t129 => (if t129 = true then (wageofficelaw24_MerkleForms.j2 kj14 l0 a2 t106 (l0.length : Int) (Int.tmod (wrap64 (a1)) (l0.length : Int)) t108 t110 true) else ((merkle_Verify.f t108 (l0.length : Int) (-1) (rdOf ByteArray.empty l0 (Int.tmod (wrap64 (a1)) (l0.length : Int))) t110).bind fun t131 => (if t131 = true then (wageofficelaw24_MerkleForms.j2 kj14 l0 a2 t106 (l0.length : Int) (Int.tmod (wrap64 (a1)) (l0.length : Int)) t108 t110 true) else ((merkle_Verify.f t108 0 0 (rdOf ByteArray.empty l0 (Int.tmod (wrap64 (a1)) (l0.length : Int))) t110).bind fun t133 => (wageofficelaw24_MerkleForms.j2 kj14 l0 a2 t106 (l0.length : Int) (Int.tmod (wrap64 (a1)) (l0.length : Int)) t108 t110 t133)))))))) else (none)) else (none)) else (none)))) else (none)) = some r := by first | (rw [hy114]; with_reducible exact H) | (have H2_ := (Option.bind_some _ _).symm.trans H; rw [hy114]; with_reducible exact H2_) | (have H2_ := (Option.bind_some _ _).symm.trans H; with_reducible exact H2_) | with_reducible exact H | (rw [hy114]; exact H) | exact H
                have Ny114 := Aside0.mk hy114
                clear hy114
                by_cases c21 : y114.length + t110.length < 8796093022208
                · rw [if_pos c21] at H
                  have LMc21 := Aside0.mk c21
                  clear c21
                  obtain ⟨y117, hy117⟩ : ∃ y_ : List (S42), y_ = (y114 ++ t110) := ⟨_, rfl⟩
                  replace H : ((some (([(⟨a3_0, a3_1⟩ : S42)] : List (S42)) : List (S42))).bind fun y120 => (if y117.length + y120.length < 8796093022208 then (if 0 ≤ (Int.tmod (wrap64 (a1)) (l0.length : Int)) then (if (Int.tmod (wrap64 (a1)) (l0.length : Int)) < (l0.length : Int) then ((merkle_Verify.f t108 (l0.length : Int) (Int.tmod (wrap64 (a1)) (l0.length : Int)) (rdOf ByteArray.empty l0 (Int.tmod (wrap64 (a1)) (l0.length : Int))) (y117 ++ y120)).bind fun t127 => (if t127 = true then (wageofficelaw24_MerkleForms.j2 kj14 l0 a2 t106 (l0.length : Int) (Int.tmod (wrap64 (a1)) (l0.length : Int)) t108 t110 true) else ((merkle_Verify.f t108 (l0.length : Int) (l0.length : Int) (rdOf ByteArray.empty l0 (Int.tmod (wrap64 (a1)) (l0.length : Int))) t110).bind fun t129 => (if t129 = true then (wageofficelaw24_MerkleForms.j2 kj14 l0 a2 t106 (l0.length : Int) (Int.tmod (wrap64 (a1)) (l0.length : Int)) t108 t110 true) else ((merkle_Verify.f t108 (l0.length : Int) (-1) (rdOf ByteArray.empty l0 (Int.tmod (wrap64 (a1)) (l0.length : Int))) t110).bind fun t131 => (if t131 = true then (wageofficelaw24_MerkleForms.j2 kj14 l0 a2 t106 (l0.length : Int) (Int.tmod (wrap64 (a1)) (l0.length : Int)) t108 t110 true) else ((merkle_Verify.f t108 0 0 (rdOf ByteArray.empty l0 (Int.tmod (wrap64 (a1)) (l0.length : Int))) t110).bind fun t133 => (wageofficelaw24_MerkleForms.j2 kj14 l0 a2 t106 (l0.length : Int) (Int.tmod (wrap64 (a1)) (l0.length : Int)) t108 t110 t133)))))))) else (none)) else (none)) else (none))) = some r := by first | (rw [hy117]; with_reducible exact H) | (have H2_ := (Option.bind_some _ _).symm.trans H; rw [hy117]; with_reducible exact H2_) | (have H2_ := (Option.bind_some _ _).symm.trans H; with_reducible exact H2_) | with_reducible exact H | (rw [hy117]; exact H) | exact H
                  have Ny117 := Aside0.mk hy117
                  clear hy117
                  obtain ⟨y120, hy120⟩ : ∃ y_ : List (S42), y_ = (([(⟨a3_0, a3_1⟩ : S42)] : List (S42))) := ⟨_, rfl⟩
                  replace H : (if y117.length + y120.length < 8796093022208 then (if 0 ≤ (Int.tmod (wrap64 (a1)) (l0.length : Int)) then (if (Int.tmod (wrap64 (a1)) (l0.length : Int)) < (l0.length : Int) then ((merkle_Verify.f t108 (l0.length : Int) (Int.tmod (wrap64 (a1)) (l0.length : Int)) (rdOf ByteArray.empty l0 (Int.tmod (wrap64 (a1)) (l0.length : Int))) (y117 ++ y120)).bind fun t127 => (if t127 = true then (wageofficelaw24_MerkleForms.j2 kj14 l0 a2 t106 (l0.length : Int) (Int.tmod (wrap64 (a1)) (l0.length : Int)) t108 t110 true) else ((merkle_Verify.f t108 (l0.length : Int) (l0.length : Int) (rdOf ByteArray.empty l0 (Int.tmod (wrap64 (a1)) (l0.length : Int))) t110).bind fun t129 => (if t129 = true then (wageofficelaw24_MerkleForms.j2 kj14 l0 a2 t106 (l0.length : Int) (Int.tmod (wrap64 (a1)) (l0.length : Int)) t108 t110 true) else ((merkle_Verify.f t108 (l0.length : Int) (-1) (rdOf ByteArray.empty l0 (Int.tmod (wrap64 (a1)) (l0.length : Int))) t110).bind fun t131 => (if t131 = true then (wageofficelaw24_MerkleForms.j2 kj14 l0 a2 t106 (l0.length : Int) (Int.tmod (wrap64 (a1)) (l0.length : Int)) t108 t110 true) else ((merkle_Verify.f t108 0 0 (rdOf ByteArray.empty l0 (Int.tmod (wrap64 (a1)) (l0.length : Int))) t110).bind fun t133 => (wageofficelaw24_MerkleForms.j2 kj14 l0 a2 t106 (l0.length : Int) (Int.tmod (wrap64 (a1)) (l0.length : Int)) t108 t110 t133)))))))) else (none)) else (none)) else (none)) = some r := by first | (rw [hy120]; with_reducible exact H) | (have H2_ := (Option.bind_some _ _).symm.trans H; rw [hy120]; with_reducible exact H2_) | (have H2_ := (Option.bind_some _ _).symm.trans H; with_reducible exact H2_) | with_reducible exact H | (rw [hy120]; exact H) | exact H
                  have Ny120 := Aside0.mk hy120
                  clear hy120
                  by_cases c22 : y117.length + y120.length < 8796093022208
                  · rw [if_pos c22] at H
                    have LMc22 := Aside0.mk c22
                    clear c22
                    obtain ⟨y123, hy123⟩ : ∃ y_ : List (S42), y_ = (y117 ++ y120) := ⟨_, rfl⟩
                    replace H : (if 0 ≤ (Int.tmod (wrap64 (a1)) (l0.length : Int)) then (if (Int.tmod (wrap64 (a1)) (l0.length : Int)) < (l0.length : Int) then ((merkle_Verify.f t108 (l0.length : Int) (Int.tmod (wrap64 (a1)) (l0.length : Int)) (rdOf ByteArray.empty l0 (Int.tmod (wrap64 (a1)) (l0.length : Int))) y123).bind fun t127 => (if t127 = true then (wageofficelaw24_MerkleForms.j2 kj14 l0 a2 t106 (l0.length : Int) (Int.tmod (wrap64 (a1)) (l0.length : Int)) t108 t110 true) else ((merkle_Verify.f t108 (l0.length : Int) (l0.length : Int) (rdOf ByteArray.empty l0 (Int.tmod (wrap64 (a1)) (l0.length : Int))) t110).bind fun t129 => (if t129 = true then (wageofficelaw24_MerkleForms.j2 kj14 l0 a2 t106 (l0.length : Int) (Int.tmod (wrap64 (a1)) (l0.length : Int)) t108 t110 true) else ((merkle_Verify.f t108 (l0.length : Int) (-1) (rdOf ByteArray.empty l0 (Int.tmod (wrap64 (a1)) (l0.length : Int))) t110).bind fun t131 => (if t131 = true then (wageofficelaw24_MerkleForms.j2 kj14 l0 a2 t106 (l0.length : Int) (Int.tmod (wrap64 (a1)) (l0.length : Int)) t108 t110 true) else ((merkle_Verify.f t108 0 0 (rdOf ByteArray.empty l0 (Int.tmod (wrap64 (a1)) (l0.length : Int))) t110).bind fun t133 => (wageofficelaw24_MerkleForms.j2 kj14 l0 a2 t106 (l0.length : Int) (Int.tmod (wrap64 (a1)) (l0.length : Int)) t108 t110 t133)))))))) else (none)) else (none)) = some r := by first | (rw [hy123]; with_reducible exact H) | (have H2_ := (Option.bind_some _ _).symm.trans H; rw [hy123]; with_reducible exact H2_) | (have H2_ := (Option.bind_some _ _).symm.trans H; with_reducible exact H2_) | with_reducible exact H | (rw [hy123]; exact H) | exact H
                    have Ny123 := Aside0.mk hy123
                    clear hy123
                    have HC23 := Aside0.mk H
                    clear H
                    obtain ⟨Ao24, co24, eo24⟩ := Kd.R_slice HO_14.out
                    subst eo24
                    try go_wp2
                    have n0_ := Aside0.mk (Kd.R_drew HO_14.out)
                    have n1_ := Aside0.mk (blk_drew BK105.out)
                    have n2_ := Aside0.mk (below_drew1 HB.out)
                    clear HO_14
                    clear BK105
                    clear HB
                    have HO_14 := n0_
                    have BK105 := n1_
                    have HB := n2_
                    clear n0_ n1_ n2_
                    refine start_ (n := 7) (S := fun w' => w'.cell? ⟨gb105, 0, none⟩ = some (.int .u64 a3_0) ∧ w'.cell? ⟨gb105, 1, none⟩ = some (.bool a3_1)) (ds := []) #[false, false, false, false, false, false, false] (by kernel_rfl) rfl rfl ⟨(blk_cell BK105.out 0).trans rfl, (blk_cell BK105.out 1).trans rfl⟩ (fun hHeld => ?_)
                    generalize wc.drew = w25 at HO_14 BK105 HB hHeld ⊢
                    refine pure_ (i := 1) (N := some 54) (v := ?_) (a' := ?_) #[false, true, false, false, false, false, false] rfl rfl (by kernel_rfl) (fun _ _ _ h => h) (Or.inl ⟨by rfl, ?_⟩) ?_ ?_
                    rotate_left
                    · intro w'
                      go_simp
                      with_reducible rfl
                    rotate_left
                    · simp only [Act.put, List.setIfInBounds_toArray, List.set_cons_zero, List.set_cons_succ, i64_w, i32_w]
                      rfl
                    refine take_ (i := 3) (N := some 56) (v := ?_) (a' := ?_) #[false, true, false, true, false, false, false] rfl rfl (by kernel_rfl) (fun _ _ _ h => h) (Or.inl ⟨by rfl, ?_⟩) hHeld ?_ ?_
                    rotate_left
                    · rintro w' ⟨s0, s1⟩
                      go_simp
                      with_reducible rfl
                    rotate_left
                    · simp only [Act.put, List.setIfInBounds_toArray, List.set_cons_zero, List.set_cons_succ, i64_w, i32_w]
                      rfl
                    refine join_ (σ := Value × Value × Value) 2 #[true, true, true, true, true, false, false] (fun s_ => [(53, s_.1), (55, s_.2.1), (57, s_.2.2)]) (fun s_ w' => (w'.cell? ⟨gb105, 0, none⟩ = some (.int .u64 a3_0) ∧ w'.cell? ⟨gb105, 1, none⟩ = some (.bool a3_1)) ∧ (Kd.R k42 42 w' w.heap.size (fun k_ => some k_ ≠ (s_.2.2 : Value).ownBlock ∧ some k_ ≠ (.slice Ao24 t110.length co24 : Value).ownBlock ∧ k_ ≠ gb105) s_.2.1 y117) ∧ (Kd.R k42 42 w' w.heap.size (fun k_ => some k_ ≠ (s_.2.1 : Value).ownBlock ∧ some k_ ≠ (.slice Ao24 t110.length co24 : Value).ownBlock ∧ k_ ≠ gb105) s_.2.2 y120) ∧ (Kd.R k42 42 w' w.heap.size (fun k_ => some k_ ≠ (s_.2.1 : Value).ownBlock ∧ some k_ ≠ (s_.2.2 : Value).ownBlock ∧ k_ ≠ gb105) (.slice Ao24 t110.length co24) t110) ∧ (w'.heap[gb105]? = some (.cells #[.int .u64 a3_0, .bool a3_1] 42 (0, 0))) ∧ (Below w.heap.size w w')) ?_ ?_
                    rotate_left
                    · intro hCont
                      refine two_ (i := 0) (j := 4) (Ni := some 53) (Nj := some 57) #[true, true, false, true, false, false, false] #[false, true, false, true, true, false, false] rfl rfl rfl rfl (by kernel_rfl) (by decide) (by decide) (fun K hK => ?_) (fun K hK => ?_)
                      · skip
                        refine Kd.R_lit_step k42 _ 42 ?hg (N := 53) ?hd (xs := ([] : List (S42))) (inner := []) (ok := fun _ => True) (okp := fun _ => True) ?hr ?hp (fun _ hk => hk) trivial (Below.refl _ _) (Nat.le_refl _) (by simp) ?_; (case hd => rfl); (case hg => rfl); (case hr => first | (go_simp; done) | (go_simp; rfl)); (case hp => exact (Reps.none _ _))
                        intro v115 w26 ho27 hb hg_ hnew_
                        clear hg_ hnew_
                        (first | rw [← Ny114.out] at ho27 | (simp only [Int.reduceToNat] at ho27; rw [← Ny114.out] at ho27))
                        have n0_ := Aside0.mk (Kd.R_elder' (by (with_reducible repeat (first | apply Kd.R_alloc | apply Kd.R_drewN | apply Kd.R_drew)); exact HO_14.out) (Kd.R_base ho27) hb)
                        have n1_ := Aside0.mk (Kd.R_lower (Kd.R_newB (Kd.R_new' ho27 (Kd.R_lt (by (with_reducible repeat (first | apply Kd.R_alloc | apply Kd.R_drewN | apply Kd.R_drew)); exact HO_14.out))) (g := gb105) (o := .cells #[.int .u64 a3_0, .bool a3_1] 42 (0, 0)) (by (with_reducible repeat (first | refine blk_drewN ?_ _ | refine blk_drew ?_ | refine blk_alloc ?_ _)); exact BK105.out)) (below_size (by repeat (first | (with_reducible first | exact HB.out | apply below_alloc | apply pw_below_drewN | apply below_drew1 | refine below_set ?_ GE105.out) | exact HB.out))))
                        have n2_ := Aside0.mk (blk_below (g := gb105) (o := .cells #[.int .u64 a3_0, .bool a3_1] 42 (0, 0)) (by (with_reducible repeat (first | refine blk_drewN ?_ _ | refine blk_drew ?_ | refine blk_alloc ?_ _)); exact BK105.out) hb)
                        have n3_ := Aside0.mk (below_step (by repeat (first | (with_reducible first | exact HB.out | apply below_alloc | apply pw_below_drewN | apply below_drew1 | refine below_set ?_ GE105.out) | exact HB.out)) hb)
                        clear HO_14
                        clear BK105
                        clear HB
                        have HO_14 := n0_
                        have HO116 := n1_
                        have BK105 := n2_
                        have HB := n3_
                        clear n0_ n1_ n2_ n3_
                        clear hb ho27
                        refine hK.out _ _ ⟨(blk_cell BK105.out 0).trans rfl, (blk_cell BK105.out 1).trans rfl⟩ (fun hHeld => ?_)
                        clear hK K
                        refine norm_ (a' := ?_) ?_ ?_
                        rotate_left
                        · show Act.put _ (some 53) _ = _
                          simp only [Act.put, List.setIfInBounds_toArray, List.set_cons_zero, List.set_cons_succ, i64_w, i32_w]
                          rfl
                        refine two_ (i := 2) (j := 4) (Ni := some 55) (Nj := some 57) #[true, true, true, true, false, false, false] #[true, true, false, true, true, false, false] rfl rfl rfl rfl (by kernel_rfl) (by decide) (by decide) (fun K hK => ?_) (fun K hK => ?_)
                        · skip
                          refine Kd.R_append_rows_step k42 (w0 := w) w.heap.size (by rfl) (.tmp 53) (.tmp 54) 25 42 (.agg #[(.int .u64 0), (.bool false)]) 16 rfl Try.underlying25 info42 rfl (by decide) (by omega) v115 y114 t110 _ _ _ (fun k_ => some k_ ≠ (.slice Ao24 t110.length co24 : Value).ownBlock ∧ k_ ≠ gb105) (fun _ => False) rfl rfl ?aO ?aR (fun _ _ h => h) (fun _ h => h.elim) ?aF ?aB ?aS ?aL ?_
                          (case aR => repeat (first | exact (Kd.R_reads' HO_14.out).2.2 | (with_reducible refine Kd.C_alloc ?_ _) | (with_reducible refine Kd.C_drewN ?_ _) | (with_reducible refine Kd.C_drew ?_)))
                          (case aB => exact (by repeat (first | (with_reducible first | exact HB.out | apply below_alloc | apply pw_below_drewN | apply below_drew1 | refine below_set ?_ GE105.out) | exact HB.out)))
                          (case aF => exact (fun k_ hk => ⟨Kd.fresh' (Kd.R_lt (by (with_reducible repeat (first | apply Kd.R_alloc | apply Kd.R_drewN | apply Kd.R_drew)); exact HO_14.out)) k_ hk, Kd.freshB (g := gb105) (o := .cells #[.int .u64 a3_0, .bool a3_1] 42 (0, 0)) (by (with_reducible repeat (first | refine blk_drewN ?_ _ | refine blk_drew ?_ | refine blk_alloc ?_ _)); exact BK105.out) k_ hk⟩))
                          (case aO => exact (by (with_reducible repeat (first | apply Kd.R_alloc | apply Kd.R_drewN | apply Kd.R_drew)); exact Kd.R_mono HO116.out (fun _ hk => ⟨hk.1.2, hk.2⟩)))
                          (case aS => exact (below_size (by repeat (first | (with_reducible first | exact HB.out | apply below_alloc | apply pw_below_drewN | apply below_drew1 | refine below_set ?_ GE105.out) | exact HB.out))))
                          (case aL => have := LMc21.out; omega)
                          intro v118 w28 ho hb hg hat
                          rw [← Ny117.out] at ho
                          have n0_ := Aside0.mk (Kd.R_after (ok := (fun k_ => k_ ≠ gb105)) (by (with_reducible repeat (first | apply Kd.R_alloc | apply Kd.R_drewN | apply Kd.R_drew)); exact HO_14.out) hg hat)
                          have n1_ := Aside0.mk (blk_grown (g := gb105) (o := .cells #[.int .u64 a3_0, .bool a3_1] 42 (0, 0)) (by (with_reducible repeat (first | refine blk_drewN ?_ _ | refine blk_drew ?_ | refine blk_alloc ?_ _)); exact BK105.out) hg (Kd.R_away HO116.out (fun _ hk => hk.2)))
                          have n2_ := Aside0.mk (hb)
                          have n3_ := Aside0.mk (ho)
                          clear HO_14
                          clear BK105
                          clear HB
                          clear HO116
                          have HO_14 := n0_
                          have BK105 := n1_
                          have HB := n2_
                          have HO119 := n3_
                          clear n0_ n1_ n2_ n3_
                          clear ho hb hg hat
                          refine hK.out _ _ ⟨(blk_cell BK105.out 0).trans rfl, (blk_cell BK105.out 1).trans rfl⟩ (fun hHeld => ?_)
                          clear hK K
                          refine norm_ (a' := ?_) ?_ ?_
                          rotate_left
                          · show Act.put _ (some 55) _ = _
                            simp only [Act.put, List.setIfInBounds_toArray, List.set_cons_zero, List.set_cons_succ, i64_w, i32_w]
                            rfl
                          refine one_ (i := 4) (N := some 57) #[true, true, true, true, true, false, false] rfl rfl (by kernel_rfl) (by decide) (fun K hK => ?_)
                          refine Kd.R_lit_step k42 _ 42 ?hg (N := 57) ?hd (xs := ([(⟨a3_0, a3_1⟩ : S42)] : List (S42))) (inner := [.int .u64 a3_0, .bool a3_1]) (ok := fun _ => True) (okp := fun _ => True) ?hr ?hp (fun _ hk => hk) trivial (Below.refl _ _) (Nat.le_refl _) (by simp) ?_; (case hd => rfl); (case hg => rfl); (case hr => first | (go_simp; done) | (go_simp; rfl)); (case hp => exact (Reps.c2 (show Kd.M k42 _ _ _ (⟨a3_0, a3_1⟩ : S42) [.int .u64 a3_0, .bool a3_1] from (k42_mkM _ _ _ (⟨a3_0, a3_1⟩ : S42) )) (Reps.none _ _)))
                          intro v121 w29 ho30 hb hg_ hnew_
                          clear hg_ hnew_
                          (first | rw [← Ny120.out] at ho30 | (simp only [Int.reduceToNat] at ho30; rw [← Ny120.out] at ho30))
                          have n0_ := Aside0.mk (Kd.R_elder' (by (with_reducible repeat (first | apply Kd.R_alloc | apply Kd.R_drewN | apply Kd.R_drew)); exact HO_14.out) (Kd.R_base ho30) hb)
                          have n1_ := Aside0.mk (Kd.R_elder' (by (with_reducible repeat (first | apply Kd.R_alloc | apply Kd.R_drewN | apply Kd.R_drew)); exact HO119.out) (Kd.R_base ho30) hb)
                          have n2_ := Aside0.mk (Kd.R_lower (Kd.R_newB (Kd.R_new' (Kd.R_new' ho30 (Kd.R_lt (by (with_reducible repeat (first | apply Kd.R_alloc | apply Kd.R_drewN | apply Kd.R_drew)); exact HO_14.out))) (Kd.R_lt (by (with_reducible repeat (first | apply Kd.R_alloc | apply Kd.R_drewN | apply Kd.R_drew)); exact HO119.out))) (g := gb105) (o := .cells #[.int .u64 a3_0, .bool a3_1] 42 (0, 0)) (by (with_reducible repeat (first | refine blk_drewN ?_ _ | refine blk_drew ?_ | refine blk_alloc ?_ _)); exact BK105.out)) (below_size (by repeat (first | (with_reducible first | exact HB.out | apply below_alloc | apply pw_below_drewN | apply below_drew1 | refine below_set ?_ GE105.out) | exact HB.out))))
                          have n3_ := Aside0.mk (blk_below (g := gb105) (o := .cells #[.int .u64 a3_0, .bool a3_1] 42 (0, 0)) (by (with_reducible repeat (first | refine blk_drewN ?_ _ | refine blk_drew ?_ | refine blk_alloc ?_ _)); exact BK105.out) hb)
                          have n4_ := Aside0.mk (below_step (by repeat (first | (with_reducible first | exact HB.out | apply below_alloc | apply pw_below_drewN | apply below_drew1 | refine below_set ?_ GE105.out) | exact HB.out)) hb)
                          clear HO_14
                          clear HO119
                          clear BK105
                          clear HB
                          have HO_14 := n0_
                          have HO119 := n1_
                          have HO122 := n2_
                          have BK105 := n3_
                          have HB := n4_
                          clear n0_ n1_ n2_ n3_ n4_
                          clear hb ho30
                          refine hK.out _ _ ⟨(blk_cell BK105.out 0).trans rfl, (blk_cell BK105.out 1).trans rfl⟩ (fun hHeld => ?_)
                          clear hK K
                          refine norm_ (a' := ?_) ?_ ?_
                          rotate_left
                          · show Act.put _ (some 57) _ = _
                            simp only [Act.put, List.setIfInBounds_toArray, List.set_cons_zero, List.set_cons_succ, i64_w, i32_w]
                            rfl
                          exact norm_ (by simp only [putAll, Act.put, List.setIfInBounds_toArray, List.set_cons_zero, List.set_cons_succ]) (hCont (v115, v118, v121) _ ⟨hHeld, (by (with_reducible repeat (first | apply Kd.R_alloc | apply Kd.R_drewN | apply Kd.R_drew)); exact Kd.R_mono HO119.out (fun _ hk => ⟨hk.2, ⟨hk.1.1, hk.1.2⟩⟩)), (by (with_reducible repeat (first | apply Kd.R_alloc | apply Kd.R_drewN | apply Kd.R_drew)); exact Kd.R_mono HO122.out (fun _ hk => ⟨hk.1.2, ⟨hk.1.1.2, hk.2⟩⟩)), (by (with_reducible repeat (first | apply Kd.R_alloc | apply Kd.R_drewN | apply Kd.R_drew)); exact Kd.R_mono HO_14.out (fun _ hk => ⟨hk.1.2, ⟨hk.2, hk.1.1⟩⟩)), (by (with_reducible repeat (first | refine blk_drewN ?_ _ | refine blk_drew ?_ | refine blk_alloc ?_ _)); exact BK105.out), (by repeat (first | (with_reducible first | exact HB.out | apply below_alloc | apply pw_below_drewN | apply below_drew1 | refine below_set ?_ GE105.out) | exact HB.out))⟩)
                        · skip
                          refine Kd.R_lit_step k42 _ 42 ?hg (N := 57) ?hd (xs := ([(⟨a3_0, a3_1⟩ : S42)] : List (S42))) (inner := [.int .u64 a3_0, .bool a3_1]) (ok := fun _ => True) (okp := fun _ => True) ?hr ?hp (fun _ hk => hk) trivial (Below.refl _ _) (Nat.le_refl _) (by simp) ?_; (case hd => rfl); (case hg => rfl); (case hr => first | (go_simp; done) | (go_simp; rfl)); (case hp => exact (Reps.c2 (show Kd.M k42 _ _ _ (⟨a3_0, a3_1⟩ : S42) [.int .u64 a3_0, .bool a3_1] from (k42_mkM _ _ _ (⟨a3_0, a3_1⟩ : S42) )) (Reps.none _ _)))
                          intro v121 w28 ho29 hb hg_ hnew_
                          clear hg_ hnew_
                          (first | rw [← Ny120.out] at ho29 | (simp only [Int.reduceToNat] at ho29; rw [← Ny120.out] at ho29))
                          have n0_ := Aside0.mk (Kd.R_elder' (by (with_reducible repeat (first | apply Kd.R_alloc | apply Kd.R_drewN | apply Kd.R_drew)); exact HO_14.out) (Kd.R_base ho29) hb)
                          have n1_ := Aside0.mk (Kd.R_elder' (by (with_reducible repeat (first | apply Kd.R_alloc | apply Kd.R_drewN | apply Kd.R_drew)); exact HO116.out) (Kd.R_base ho29) hb)
                          have n2_ := Aside0.mk (Kd.R_lower (Kd.R_newB (Kd.R_new' (Kd.R_new' ho29 (Kd.R_lt (by (with_reducible repeat (first | apply Kd.R_alloc | apply Kd.R_drewN | apply Kd.R_drew)); exact HO_14.out))) (Kd.R_lt (by (with_reducible repeat (first | apply Kd.R_alloc | apply Kd.R_drewN | apply Kd.R_drew)); exact HO116.out))) (g := gb105) (o := .cells #[.int .u64 a3_0, .bool a3_1] 42 (0, 0)) (by (with_reducible repeat (first | refine blk_drewN ?_ _ | refine blk_drew ?_ | refine blk_alloc ?_ _)); exact BK105.out)) (below_size (by repeat (first | (with_reducible first | exact HB.out | apply below_alloc | apply pw_below_drewN | apply below_drew1 | refine below_set ?_ GE105.out) | exact HB.out))))
                          have n3_ := Aside0.mk (blk_below (g := gb105) (o := .cells #[.int .u64 a3_0, .bool a3_1] 42 (0, 0)) (by (with_reducible repeat (first | refine blk_drewN ?_ _ | refine blk_drew ?_ | refine blk_alloc ?_ _)); exact BK105.out) hb)
                          have n4_ := Aside0.mk (below_step (by repeat (first | (with_reducible first | exact HB.out | apply below_alloc | apply pw_below_drewN | apply below_drew1 | refine below_set ?_ GE105.out) | exact HB.out)) hb)
                          clear HO_14
                          clear HO116
                          clear BK105
                          clear HB
                          have HO_14 := n0_
                          have HO116 := n1_
                          have HO122 := n2_
                          have BK105 := n3_
                          have HB := n4_
                          clear n0_ n1_ n2_ n3_ n4_
                          clear hb ho29
                          refine hK.out _ _ ⟨(blk_cell BK105.out 0).trans rfl, (blk_cell BK105.out 1).trans rfl⟩ (fun hHeld => ?_)
                          clear hK K
                          refine norm_ (a' := ?_) ?_ ?_
                          rotate_left
                          · show Act.put _ (some 57) _ = _
                            simp only [Act.put, List.setIfInBounds_toArray, List.set_cons_zero, List.set_cons_succ, i64_w, i32_w]
                            rfl
                          refine one_ (i := 2) (N := some 55) #[true, true, true, true, true, false, false] rfl rfl (by kernel_rfl) (by decide) (fun K hK => ?_)
                          refine Kd.R_append_rows_step k42 (w0 := w) w.heap.size (by rfl) (.tmp 53) (.tmp 54) 25 42 (.agg #[(.int .u64 0), (.bool false)]) 16 rfl Try.underlying25 info42 rfl (by decide) (by omega) v115 y114 t110 _ _ _ (fun k_ => some k_ ≠ (.slice Ao24 t110.length co24 : Value).ownBlock ∧ some k_ ≠ (v121 : Value).ownBlock ∧ k_ ≠ gb105) (fun _ => False) rfl rfl ?aO ?aR (fun _ _ h => h) (fun _ h => h.elim) ?aF ?aB ?aS ?aL ?_
                          (case aR => repeat (first | exact (Kd.R_reads' HO_14.out).2.2 | (with_reducible refine Kd.C_alloc ?_ _) | (with_reducible refine Kd.C_drewN ?_ _) | (with_reducible refine Kd.C_drew ?_)))
                          (case aB => exact (by repeat (first | (with_reducible first | exact HB.out | apply below_alloc | apply pw_below_drewN | apply below_drew1 | refine below_set ?_ GE105.out) | exact HB.out)))
                          (case aF => exact (fun k_ hk => ⟨Kd.fresh' (Kd.R_lt (by (with_reducible repeat (first | apply Kd.R_alloc | apply Kd.R_drewN | apply Kd.R_drew)); exact HO_14.out)) k_ hk, Kd.fresh' (Kd.R_lt (by (with_reducible repeat (first | apply Kd.R_alloc | apply Kd.R_drewN | apply Kd.R_drew)); exact HO122.out)) k_ hk, Kd.freshB (g := gb105) (o := .cells #[.int .u64 a3_0, .bool a3_1] 42 (0, 0)) (by (with_reducible repeat (first | refine blk_drewN ?_ _ | refine blk_drew ?_ | refine blk_alloc ?_ _)); exact BK105.out) k_ hk⟩))
                          (case aO => exact (by (with_reducible repeat (first | apply Kd.R_alloc | apply Kd.R_drewN | apply Kd.R_drew)); exact Kd.R_mono HO116.out (fun _ hk => ⟨hk.1.1.2, ⟨hk.2, hk.1.2⟩⟩)))
                          (case aS => exact (below_size (by repeat (first | (with_reducible first | exact HB.out | apply below_alloc | apply pw_below_drewN | apply below_drew1 | refine below_set ?_ GE105.out) | exact HB.out))))
                          (case aL => have := LMc21.out; omega)
                          intro v118 w30 ho hb hg hat
                          rw [← Ny117.out] at ho
                          have n0_ := Aside0.mk (Kd.R_after (ok := (fun k_ => some k_ ≠ (v121 : Value).ownBlock ∧ k_ ≠ gb105)) (by (with_reducible repeat (first | apply Kd.R_alloc | apply Kd.R_drewN | apply Kd.R_drew)); exact Kd.R_mono HO_14.out (fun _ hk => ⟨⟨hk.2, hk.1.1⟩, hk.1.2⟩)) hg hat)
                          have n1_ := Aside0.mk (blk_grown (g := gb105) (o := .cells #[.int .u64 a3_0, .bool a3_1] 42 (0, 0)) (by (with_reducible repeat (first | refine blk_drewN ?_ _ | refine blk_drew ?_ | refine blk_alloc ?_ _)); exact BK105.out) hg (Kd.R_away HO116.out (fun _ hk => hk.1.2)))
                          have n2_ := Aside0.mk (Kd.R_after (ok := (fun k_ => some k_ ≠ (.slice Ao24 t110.length co24 : Value).ownBlock ∧ k_ ≠ gb105)) (by (with_reducible repeat (first | apply Kd.R_alloc | apply Kd.R_drewN | apply Kd.R_drew)); exact Kd.R_mono HO122.out (fun _ hk => ⟨⟨hk.1.1.2, hk.2⟩, hk.1.2⟩)) hg hat)
                          have n3_ := Aside0.mk (hb)
                          have n4_ := Aside0.mk (ho)
                          clear HO_14
                          clear BK105
                          clear HO122
                          clear HB
                          clear HO116
                          have HO_14 := n0_
                          have BK105 := n1_
                          have HO122 := n2_
                          have HB := n3_
                          have HO119 := n4_
                          clear n0_ n1_ n2_ n3_ n4_
                          clear ho hb hg hat
                          refine hK.out _ _ ⟨(blk_cell BK105.out 0).trans rfl, (blk_cell BK105.out 1).trans rfl⟩ (fun hHeld => ?_)
                          clear hK K
                          refine norm_ (a' := ?_) ?_ ?_
                          rotate_left
                          · show Act.put _ (some 55) _ = _
                            simp only [Act.put, List.setIfInBounds_toArray, List.set_cons_zero, List.set_cons_succ, i64_w, i32_w]
                            rfl
                          exact norm_ (by simp only [putAll, Act.put, List.setIfInBounds_toArray, List.set_cons_zero, List.set_cons_succ]) (hCont (v115, v118, v121) _ ⟨hHeld, (by (with_reducible repeat (first | apply Kd.R_alloc | apply Kd.R_drewN | apply Kd.R_drew)); exact Kd.R_mono HO119.out (fun _ hk => ⟨hk.2.1, ⟨hk.1, hk.2.2⟩⟩)), (by (with_reducible repeat (first | apply Kd.R_alloc | apply Kd.R_drewN | apply Kd.R_drew)); exact Kd.R_mono HO122.out (fun _ hk => ⟨hk.2, ⟨hk.1.1, hk.1.2⟩⟩)), (by (with_reducible repeat (first | apply Kd.R_alloc | apply Kd.R_drewN | apply Kd.R_drew)); exact Kd.R_mono HO_14.out (fun _ hk => ⟨hk.2, ⟨hk.1.1, hk.1.2⟩⟩)), (by (with_reducible repeat (first | refine blk_drewN ?_ _ | refine blk_drew ?_ | refine blk_alloc ?_ _)); exact BK105.out), (by repeat (first | (with_reducible first | exact HB.out | apply below_alloc | apply pw_below_drewN | apply below_drew1 | refine below_set ?_ GE105.out) | exact HB.out))⟩)
                      · skip
                        refine Kd.R_lit_step k42 _ 42 ?hg (N := 57) ?hd (xs := ([(⟨a3_0, a3_1⟩ : S42)] : List (S42))) (inner := [.int .u64 a3_0, .bool a3_1]) (ok := fun _ => True) (okp := fun _ => True) ?hr ?hp (fun _ hk => hk) trivial (Below.refl _ _) (Nat.le_refl _) (by simp) ?_; (case hd => rfl); (case hg => rfl); (case hr => first | (go_simp; done) | (go_simp; rfl)); (case hp => exact (Reps.c2 (show Kd.M k42 _ _ _ (⟨a3_0, a3_1⟩ : S42) [.int .u64 a3_0, .bool a3_1] from (k42_mkM _ _ _ (⟨a3_0, a3_1⟩ : S42) )) (Reps.none _ _)))
                        intro v121 w26 ho27 hb hg_ hnew_
                        clear hg_ hnew_
                        (first | rw [← Ny120.out] at ho27 | (simp only [Int.reduceToNat] at ho27; rw [← Ny120.out] at ho27))
                        have n0_ := Aside0.mk (Kd.R_elder' (by (with_reducible repeat (first | apply Kd.R_alloc | apply Kd.R_drewN | apply Kd.R_drew)); exact HO_14.out) (Kd.R_base ho27) hb)
                        have n1_ := Aside0.mk (Kd.R_lower (Kd.R_newB (Kd.R_new' ho27 (Kd.R_lt (by (with_reducible repeat (first | apply Kd.R_alloc | apply Kd.R_drewN | apply Kd.R_drew)); exact HO_14.out))) (g := gb105) (o := .cells #[.int .u64 a3_0, .bool a3_1] 42 (0, 0)) (by (with_reducible repeat (first | refine blk_drewN ?_ _ | refine blk_drew ?_ | refine blk_alloc ?_ _)); exact BK105.out)) (below_size (by repeat (first | (with_reducible first | exact HB.out | apply below_alloc | apply pw_below_drewN | apply below_drew1 | refine below_set ?_ GE105.out) | exact HB.out))))
                        have n2_ := Aside0.mk (blk_below (g := gb105) (o := .cells #[.int .u64 a3_0, .bool a3_1] 42 (0, 0)) (by (with_reducible repeat (first | refine blk_drewN ?_ _ | refine blk_drew ?_ | refine blk_alloc ?_ _)); exact BK105.out) hb)
                        have n3_ := Aside0.mk (below_step (by repeat (first | (with_reducible first | exact HB.out | apply below_alloc | apply pw_below_drewN | apply below_drew1 | refine below_set ?_ GE105.out) | exact HB.out)) hb)
                        clear HO_14
                        clear BK105
                        clear HB
                        have HO_14 := n0_
                        have HO122 := n1_
                        have BK105 := n2_
                        have HB := n3_
                        clear n0_ n1_ n2_ n3_
                        clear hb ho27
                        refine hK.out _ _ ⟨(blk_cell BK105.out 0).trans rfl, (blk_cell BK105.out 1).trans rfl⟩ (fun hHeld => ?_)
                        clear hK K
                        refine norm_ (a' := ?_) ?_ ?_
                        rotate_left
                        · show Act.put _ (some 57) _ = _
                          simp only [Act.put, List.setIfInBounds_toArray, List.set_cons_zero, List.set_cons_succ, i64_w, i32_w]
                          rfl
                        refine one_ (i := 0) (N := some 53) #[true, true, false, true, true, false, false] rfl rfl (by kernel_rfl) (by decide) (fun K hK => ?_)
                        refine Kd.R_lit_step k42 _ 42 ?hg (N := 53) ?hd (xs := ([] : List (S42))) (inner := []) (ok := fun _ => True) (okp := fun _ => True) ?hr ?hp (fun _ hk => hk) trivial (Below.refl _ _) (Nat.le_refl _) (by simp) ?_; (case hd => rfl); (case hg => rfl); (case hr => first | (go_simp; done) | (go_simp; rfl)); (case hp => exact (Reps.none _ _))
                        intro v115 w28 ho29 hb hg_ hnew_
                        clear hg_ hnew_
                        (first | rw [← Ny114.out] at ho29 | (simp only [Int.reduceToNat] at ho29; rw [← Ny114.out] at ho29))
                        have n0_ := Aside0.mk (Kd.R_elder' (by (with_reducible repeat (first | apply Kd.R_alloc | apply Kd.R_drewN | apply Kd.R_drew)); exact HO_14.out) (Kd.R_base ho29) hb)
                        have n1_ := Aside0.mk (Kd.R_elder' (by (with_reducible repeat (first | apply Kd.R_alloc | apply Kd.R_drewN | apply Kd.R_drew)); exact HO122.out) (Kd.R_base ho29) hb)
                        have n2_ := Aside0.mk (Kd.R_lower (Kd.R_newB (Kd.R_new' (Kd.R_new' ho29 (Kd.R_lt (by (with_reducible repeat (first | apply Kd.R_alloc | apply Kd.R_drewN | apply Kd.R_drew)); exact HO_14.out))) (Kd.R_lt (by (with_reducible repeat (first | apply Kd.R_alloc | apply Kd.R_drewN | apply Kd.R_drew)); exact HO122.out))) (g := gb105) (o := .cells #[.int .u64 a3_0, .bool a3_1] 42 (0, 0)) (by (with_reducible repeat (first | refine blk_drewN ?_ _ | refine blk_drew ?_ | refine blk_alloc ?_ _)); exact BK105.out)) (below_size (by repeat (first | (with_reducible first | exact HB.out | apply below_alloc | apply pw_below_drewN | apply below_drew1 | refine below_set ?_ GE105.out) | exact HB.out))))
                        have n3_ := Aside0.mk (blk_below (g := gb105) (o := .cells #[.int .u64 a3_0, .bool a3_1] 42 (0, 0)) (by (with_reducible repeat (first | refine blk_drewN ?_ _ | refine blk_drew ?_ | refine blk_alloc ?_ _)); exact BK105.out) hb)
                        have n4_ := Aside0.mk (below_step (by repeat (first | (with_reducible first | exact HB.out | apply below_alloc | apply pw_below_drewN | apply below_drew1 | refine below_set ?_ GE105.out) | exact HB.out)) hb)
                        clear HO_14
                        clear HO122
                        clear BK105
                        clear HB
                        have HO_14 := n0_
                        have HO122 := n1_
                        have HO116 := n2_
                        have BK105 := n3_
                        have HB := n4_
                        clear n0_ n1_ n2_ n3_ n4_
                        clear hb ho29
                        refine hK.out _ _ ⟨(blk_cell BK105.out 0).trans rfl, (blk_cell BK105.out 1).trans rfl⟩ (fun hHeld => ?_)
                        clear hK K
                        refine norm_ (a' := ?_) ?_ ?_
                        rotate_left
                        · show Act.put _ (some 53) _ = _
                          simp only [Act.put, List.setIfInBounds_toArray, List.set_cons_zero, List.set_cons_succ, i64_w, i32_w]
                          rfl
                        refine one_ (i := 2) (N := some 55) #[true, true, true, true, true, false, false] rfl rfl (by kernel_rfl) (by decide) (fun K hK => ?_)
                        refine Kd.R_append_rows_step k42 (w0 := w) w.heap.size (by rfl) (.tmp 53) (.tmp 54) 25 42 (.agg #[(.int .u64 0), (.bool false)]) 16 rfl Try.underlying25 info42 rfl (by decide) (by omega) v115 y114 t110 _ _ _ (fun k_ => some k_ ≠ (.slice Ao24 t110.length co24 : Value).ownBlock ∧ some k_ ≠ (v121 : Value).ownBlock ∧ k_ ≠ gb105) (fun _ => False) rfl rfl ?aO ?aR (fun _ _ h => h) (fun _ h => h.elim) ?aF ?aB ?aS ?aL ?_
                        (case aR => repeat (first | exact (Kd.R_reads' HO_14.out).2.2 | (with_reducible refine Kd.C_alloc ?_ _) | (with_reducible refine Kd.C_drewN ?_ _) | (with_reducible refine Kd.C_drew ?_)))
                        (case aB => exact (by repeat (first | (with_reducible first | exact HB.out | apply below_alloc | apply pw_below_drewN | apply below_drew1 | refine below_set ?_ GE105.out) | exact HB.out)))
                        (case aF => exact (fun k_ hk => ⟨Kd.fresh' (Kd.R_lt (by (with_reducible repeat (first | apply Kd.R_alloc | apply Kd.R_drewN | apply Kd.R_drew)); exact HO_14.out)) k_ hk, Kd.fresh' (Kd.R_lt (by (with_reducible repeat (first | apply Kd.R_alloc | apply Kd.R_drewN | apply Kd.R_drew)); exact HO122.out)) k_ hk, Kd.freshB (g := gb105) (o := .cells #[.int .u64 a3_0, .bool a3_1] 42 (0, 0)) (by (with_reducible repeat (first | refine blk_drewN ?_ _ | refine blk_drew ?_ | refine blk_alloc ?_ _)); exact BK105.out) k_ hk⟩))
                        (case aO => exact (by (with_reducible repeat (first | apply Kd.R_alloc | apply Kd.R_drewN | apply Kd.R_drew)); exact Kd.R_mono HO116.out (fun _ hk => ⟨hk.1.1.2, ⟨hk.1.2, hk.2⟩⟩)))
                        (case aS => exact (below_size (by repeat (first | (with_reducible first | exact HB.out | apply below_alloc | apply pw_below_drewN | apply below_drew1 | refine below_set ?_ GE105.out) | exact HB.out))))
                        (case aL => have := LMc21.out; omega)
                        intro v118 w30 ho hb hg hat
                        rw [← Ny117.out] at ho
                        have n0_ := Aside0.mk (Kd.R_after (ok := (fun k_ => some k_ ≠ (v121 : Value).ownBlock ∧ k_ ≠ gb105)) (by (with_reducible repeat (first | apply Kd.R_alloc | apply Kd.R_drewN | apply Kd.R_drew)); exact Kd.R_mono HO_14.out (fun _ hk => ⟨⟨hk.1.2, hk.1.1⟩, hk.2⟩)) hg hat)
                        have n1_ := Aside0.mk (blk_grown (g := gb105) (o := .cells #[.int .u64 a3_0, .bool a3_1] 42 (0, 0)) (by (with_reducible repeat (first | refine blk_drewN ?_ _ | refine blk_drew ?_ | refine blk_alloc ?_ _)); exact BK105.out) hg (Kd.R_away HO116.out (fun _ hk => hk.2)))
                        have n2_ := Aside0.mk (Kd.R_after (ok := (fun k_ => some k_ ≠ (.slice Ao24 t110.length co24 : Value).ownBlock ∧ k_ ≠ gb105)) (by (with_reducible repeat (first | apply Kd.R_alloc | apply Kd.R_drewN | apply Kd.R_drew)); exact Kd.R_mono HO122.out (fun _ hk => ⟨⟨hk.1.1.2, hk.1.2⟩, hk.2⟩)) hg hat)
                        have n3_ := Aside0.mk (hb)
                        have n4_ := Aside0.mk (ho)
                        clear HO_14
                        clear BK105
                        clear HO122
                        clear HB
                        clear HO116
                        have HO_14 := n0_
                        have BK105 := n1_
                        have HO122 := n2_
                        have HB := n3_
                        have HO119 := n4_
                        clear n0_ n1_ n2_ n3_ n4_
                        clear ho hb hg hat
                        refine hK.out _ _ ⟨(blk_cell BK105.out 0).trans rfl, (blk_cell BK105.out 1).trans rfl⟩ (fun hHeld => ?_)
                        clear hK K
                        refine norm_ (a' := ?_) ?_ ?_
                        rotate_left
                        · show Act.put _ (some 55) _ = _
                          simp only [Act.put, List.setIfInBounds_toArray, List.set_cons_zero, List.set_cons_succ, i64_w, i32_w]
                          rfl
                        exact norm_ (by simp only [putAll, Act.put, List.setIfInBounds_toArray, List.set_cons_zero, List.set_cons_succ]) (hCont (v115, v118, v121) _ ⟨hHeld, (by (with_reducible repeat (first | apply Kd.R_alloc | apply Kd.R_drewN | apply Kd.R_drew)); exact Kd.R_mono HO119.out (fun _ hk => ⟨hk.2.1, ⟨hk.1, hk.2.2⟩⟩)), (by (with_reducible repeat (first | apply Kd.R_alloc | apply Kd.R_drewN | apply Kd.R_drew)); exact Kd.R_mono HO122.out (fun _ hk => ⟨hk.2, ⟨hk.1.1, hk.1.2⟩⟩)), (by (with_reducible repeat (first | apply Kd.R_alloc | apply Kd.R_drewN | apply Kd.R_drew)); exact Kd.R_mono HO_14.out (fun _ hk => ⟨hk.2, ⟨hk.1.1, hk.1.2⟩⟩)), (by (with_reducible repeat (first | refine blk_drewN ?_ _ | refine blk_drew ?_ | refine blk_alloc ?_ _)); exact BK105.out), (by repeat (first | (with_reducible first | exact HB.out | apply below_alloc | apply pw_below_drewN | apply below_drew1 | refine below_set ?_ GE105.out) | exact HB.out))⟩)
                    rintro ⟨v115, v118, v121⟩ w31 ⟨hS_, h0_, h1_, h2_, h3_, h4_⟩
                    have n0_ : Aside0 (Kd.R k42 42 w31 w.heap.size (fun k_ => some k_ ≠ (v121 : Value).ownBlock ∧ some k_ ≠ (.slice Ao24 t110.length co24 : Value).ownBlock ∧ k_ ≠ gb105) v118 y117) := ⟨h0_⟩
                    have n1_ : Aside0 (Kd.R k42 42 w31 w.heap.size (fun k_ => some k_ ≠ (v118 : Value).ownBlock ∧ some k_ ≠ (.slice Ao24 t110.length co24 : Value).ownBlock ∧ k_ ≠ gb105) v121 y120) := ⟨h1_⟩
                    have n2_ : Aside0 (Kd.R k42 42 w31 w.heap.size (fun k_ => some k_ ≠ (v118 : Value).ownBlock ∧ some k_ ≠ (v121 : Value).ownBlock ∧ k_ ≠ gb105) (.slice Ao24 t110.length co24) t110) := ⟨h2_⟩
                    have n3_ : Aside0 (w31.heap[gb105]? = some (.cells #[.int .u64 a3_0, .bool a3_1] 42 (0, 0))) := ⟨h3_⟩
                    have n4_ : Aside0 (Below w.heap.size w w31) := ⟨h4_⟩
                    clear HO_14
                    clear BK105
                    clear HB
                    clear h0_ h1_ h2_ h3_ h4_
                    have HO119 := n0_
                    have HO122 := n1_
                    have HO_14 := n2_
                    have BK105 := n3_
                    have HB := n4_
                    clear n0_ n1_ n2_ n3_ n4_
                    have hHeld : w31.cell? ⟨gb105, 0, none⟩ = some (.int .u64 a3_0) ∧ w31.cell? ⟨gb105, 1, none⟩ = some (.bool a3_1) := hS_
                    obtain ⟨Ao33, co33, eo33⟩ := Kd.R_slice HO122.out
                    (first | subst eo33 | (injection eo33 with f1_ f2_ f3_; have f4_ := f1_.symm; have f5_ := f3_.symm; clear f1_ f2_ f3_; subst f4_; subst f5_))
                    refine norm_ (a' := ?_) ?_ ?_
                    rotate_left
                    · simp only [putAll, Act.put, List.setIfInBounds_toArray, List.set_cons_zero, List.set_cons_succ]
                      rfl
                    refine one_ (i := 5) (N := some 58) #[true, true, true, true, true, true, false] rfl rfl (by kernel_rfl) (by decide) (fun K hK => ?_)
                    refine Kd.R_append_rows_step k42 (w0 := w) w.heap.size (by rfl) (.tmp 55) (.tmp 57) 25 42 (.agg #[(.int .u64 0), (.bool false)]) 16 rfl Try.underlying25 info42 rfl (by decide) (by omega) v118 y117 y120 _ _ _ (fun k_ => some k_ ≠ (.slice Ao24 t110.length co24 : Value).ownBlock ∧ some k_ ≠ (.slice Ao33 y120.length co33 : Value).ownBlock ∧ k_ ≠ gb105) (fun _ => False) rfl rfl ?aO ?aR (fun _ _ h => h) (fun _ h => h.elim) ?aF ?aB ?aS ?aL ?_
                    (case aR => repeat (first | exact (Kd.R_reads' HO122.out).2.2 | (with_reducible refine Kd.C_alloc ?_ _) | (with_reducible refine Kd.C_drewN ?_ _) | (with_reducible refine Kd.C_drew ?_)))
                    (case aB => exact (by repeat (first | (with_reducible first | exact HB.out | apply below_alloc | apply pw_below_drewN | apply below_drew1 | refine below_set ?_ GE105.out) | exact HB.out)))
                    (case aF => exact (fun k_ hk => ⟨Kd.fresh' (Kd.R_lt (by (with_reducible repeat (first | apply Kd.R_alloc | apply Kd.R_drewN | apply Kd.R_drew)); exact HO_14.out)) k_ hk, Kd.fresh' (Kd.R_lt (by (with_reducible repeat (first | apply Kd.R_alloc | apply Kd.R_drewN | apply Kd.R_drew)); exact HO122.out)) k_ hk, Kd.freshB (g := gb105) (o := .cells #[.int .u64 a3_0, .bool a3_1] 42 (0, 0)) (by (with_reducible repeat (first | refine blk_drewN ?_ _ | refine blk_drew ?_ | refine blk_alloc ?_ _)); exact BK105.out) k_ hk⟩))
                    (case aO => exact (by (with_reducible repeat (first | apply Kd.R_alloc | apply Kd.R_drewN | apply Kd.R_drew)); exact Kd.R_mono HO119.out (fun _ hk => ⟨hk.2.1, ⟨hk.1, hk.2.2⟩⟩)))
                    (case aS => exact (below_size (by repeat (first | (with_reducible first | exact HB.out | apply below_alloc | apply pw_below_drewN | apply below_drew1 | refine below_set ?_ GE105.out) | exact HB.out))))
                    (case aL => have := LMc22.out; omega)
                    intro v124 w32 ho hb hg hat
                    rw [← Ny123.out] at ho
                    have n0_ := Aside0.mk (Kd.R_after (ok := (fun k_ => some k_ ≠ (.slice Ao33 y120.length co33 : Value).ownBlock ∧ k_ ≠ gb105)) (by (with_reducible repeat (first | apply Kd.R_alloc | apply Kd.R_drewN | apply Kd.R_drew)); exact Kd.R_mono HO_14.out (fun _ hk => ⟨⟨hk.2.1, hk.2.2⟩, hk.1⟩)) hg hat)
                    have n1_ := Aside0.mk (blk_grown (g := gb105) (o := .cells #[.int .u64 a3_0, .bool a3_1] 42 (0, 0)) (by (with_reducible repeat (first | refine blk_drewN ?_ _ | refine blk_drew ?_ | refine blk_alloc ?_ _)); exact BK105.out) hg (Kd.R_away HO119.out (fun _ hk => hk.2.2)))
                    have n2_ := Aside0.mk (Kd.R_after (ok := (fun k_ => some k_ ≠ (.slice Ao24 t110.length co24 : Value).ownBlock ∧ k_ ≠ gb105)) (by (with_reducible repeat (first | apply Kd.R_alloc | apply Kd.R_drewN | apply Kd.R_drew)); exact Kd.R_mono HO122.out (fun _ hk => ⟨⟨hk.2.1, hk.2.2⟩, hk.1⟩)) hg hat)
                    have n3_ := Aside0.mk (hb)
                    have n4_ := Aside0.mk (ho)
                    clear HO_14
                    clear BK105
                    clear HO122
                    clear HB
                    clear HO119
                    have HO_14 := n0_
                    have BK105 := n1_
                    have HO122 := n2_
                    have HB := n3_
                    have HO125 := n4_
                    clear n0_ n1_ n2_ n3_ n4_
                    clear ho hb hg hat
                    refine hK.out _ _ ⟨(blk_cell BK105.out 0).trans rfl, (blk_cell BK105.out 1).trans rfl⟩ (fun hHeld => ?_)
                    clear hK K
                    refine norm_ (a' := ?_) ?_ ?_
                    rotate_left
                    · show Act.put _ (some 58) _ = _
                      simp only [Act.put, List.setIfInBounds_toArray, List.set_cons_zero, List.set_cons_succ, i64_w, i32_w]
                      rfl
                    refine pure_ (i := 6) (N := some 16) (v := ?_) (a' := ?_) #[true, true, true, true, true, true, true] rfl rfl (by kernel_rfl) (fun _ _ _ h => h) (Or.inl ⟨by rfl, ?_⟩) ?_ ?_
                    rotate_left
                    · intro w'
                      go_simp
                      with_reducible rfl
                    rotate_left
                    · simp only [Act.put, List.setIfInBounds_toArray, List.set_cons_zero, List.set_cons_succ, i64_w, i32_w]
                      rfl
                    refine done_ (by kernel_rfl) ?_
                    go_upto_region 11 with (fail)
                    go_cut [97] (fun v97 wc => ∃ (kq : Nat) (x97_22 : Bool), v97 = .bool x97_22 ∧ Aside0 (wageofficelaw24_MerkleForms.j2 kq l0 a2 t106 (l0.length : Int) (Int.tmod (wrap64 (a1)) (l0.length : Int)) t108 t110 x97_22 = some r) ∧ Aside0 (kq ≤ kj14) ∧ Aside0 (Kd.R k42 42 wc w.heap.size (fun k_ => k_ ≠ gb105) (.slice Ao24 t110.length co24) t110) ∧ Aside0 (wc.heap[gb105]? = some (.cells #[.int .u64 a3_0, .bool a3_1] 42 (0, 0))) ∧ Aside0 (Below w.heap.size w wc))
                    case first =>
                      have H := HC23.out
                      clear HC23
                      obtain ⟨ji34, hji34⟩ : ∃ j_ : Int, (Int.tmod (wrap64 (a1)) (l0.length : Int)) = j_ := ⟨_, rfl⟩
                      replace H : (if 0 ≤ (ji34) then (if (ji34) < (l0.length : Int) then ((merkle_Verify.f t108 (l0.length : Int) (ji34) (rdOf ByteArray.empty l0 (ji34)) y123).bind fun t127 => (if t127 = true then (wageofficelaw24_MerkleForms.j2 kj14 l0 a2 t106 (l0.length : Int) (ji34) t108 t110 true) else ((merkle_Verify.f t108 (l0.length : Int) (l0.length : Int) (rdOf ByteArray.empty l0 (ji34)) t110).bind fun t129 => (if t129 = true then (wageofficelaw24_MerkleForms.j2 kj14 l0 a2 t106 (l0.length : Int) (ji34) t108 t110 true) else ((merkle_Verify.f t108 (l0.length : Int) (-1) (rdOf ByteArray.empty l0 (ji34)) t110).bind fun t131 => (if t131 = true then (wageofficelaw24_MerkleForms.j2 kj14 l0 a2 t106 (l0.length : Int) (ji34) t108 t110 true) else ((merkle_Verify.f t108 0 0 (rdOf ByteArray.empty l0 (ji34)) t110).bind fun t133 => (wageofficelaw24_MerkleForms.j2 kj14 l0 a2 t106 (l0.length : Int) (ji34) t108 t110 t133)))))))) else (none)) else (none)) = some r := by first | (rw [hji34] at H; exact H) | (simp only [hji34] at H ⊢; exact H)
                      by_cases c35 : 0 ≤ (ji34)
                      · rw [if_pos c35] at H
                        have c35b0 : decide (0 ≤ (ji34)) = true := decide_eq_true c35
                        clear c35
                        (first | rw [c35b0] | (simp only [i64_w, i32_w]; rw [c35b0]) | skip)
                        by_cases c36 : (ji34) < (l0.length : Int)
                        · rw [if_pos c36] at H
                          have c36b0 : decide ((ji34) < (l0.length : Int)) = true := decide_eq_true c36
                          clear c36
                          replace H := Option.bind_eq_some_iff.mp H
                          obtain ⟨t127, A370, H⟩ := H
                          replace H : (if t127 = true then (wageofficelaw24_MerkleForms.j2 kj14 l0 a2 t106 (l0.length : Int) (ji34) t108 t110 true) else ((merkle_Verify.f t108 (l0.length : Int) (l0.length : Int) (rdOf ByteArray.empty l0 (ji34)) t110).bind fun t129 => (if t129 = true then (wageofficelaw24_MerkleForms.j2 kj14 l0 a2 t106 (l0.length : Int) (ji34) t108 t110 true) else ((merkle_Verify.f t108 (l0.length : Int) (-1) (rdOf ByteArray.empty l0 (ji34)) t110).bind fun t131 => (if t131 = true then (wageofficelaw24_MerkleForms.j2 kj14 l0 a2 t106 (l0.length : Int) (ji34) t108 t110 true) else ((merkle_Verify.f t108 0 0 (rdOf ByteArray.empty l0 (ji34)) t110).bind fun t133 => (wageofficelaw24_MerkleForms.j2 kj14 l0 a2 t106 (l0.length : Int) (ji34) t108 t110 t133))))))) = some r := H
                          have A37 := Aside0.mk A370
                          clear A370
                          by_cases c38 : t127 = true
                          · subst c38
                            have H1 : (wageofficelaw24_MerkleForms.j2 kj14 l0 a2 t106 (l0.length : Int) (ji34) t108 t110 true) = some r := by rw [if_pos rfl] at H; exact H
                            clear H
                            have H := H1
                            clear H1
                            have H' := Aside0.mk H
                            clear H
                            have p126 : 0 ≤ ((ji34) : Int) := of_decide_eq_true (by first | (with_reducible assumption) | assumption)
                            have q126 : (ji34) < (l0.length : Int) := of_decide_eq_true (by first | (with_reducible assumption) | assumption)
                            obtain ⟨ad126, e126, hx126_0⟩ := Kd.at_string HR0.out (ji34) p126 q126
                            cases e126
                            replace hx126_0 := (HB.out.cell (World.block_lt_of_cell? w _ hx126_0)).trans hx126_0
                            replace p126 := eq_true p126
                            replace q126 := eq_true q126
                            obtain ⟨Ao39, co39, eo39⟩ := Kd.R_slice HO125.out
                            subst eo39
                            go_wp2_with (first | ((with_reducible refine gate_callee (f := 18) rfl ?_); refine goesL_ (some 67) rfl rfl Try.func18 (by kernel_rfl) rfl #[.int .u64 t108, .int .i64 (l0.length : Int), .int .i64 (ji34), .string (rdOf ByteArray.empty l0 (ji34)), .slice Ao39 y123.length co39] rfl (by (try simp only [List.map_toArray, List.map_cons, List.map_nil]); first | done | (simp only [hji34]; rfl) | rfl | (simp only [List.length_drop, List.length_take]; rfl)) ?_; (with_reducible refine (merkle_Verify.calls t108 (l0.length : Int) (ji34) (rdOf ByteArray.empty l0 (ji34)) _ _ y123 true _ ?side1 ?side2 A37.out).mono ?_); (case side1 => repeat (first | exact (Kd.R_reads' HO125.out).2.2 | (with_reducible refine Kd.C_alloc ?_ _) | (with_reducible refine Kd.C_drewN ?_ _) | (with_reducible refine Kd.C_drew ?_))); (case side2 => exact (Kd.R_reads' HO125.out).2.1); rintro e w40 ⟨rfl, hb⟩; refine ⟨_, rfl, ?_⟩; have n0_ := Aside0.mk (Kd.R_below (by (with_reducible repeat (first | apply Kd.R_alloc | apply Kd.R_drewN | apply Kd.R_drew)); exact HO_14.out) hb); have n1_ := Aside0.mk (Kd.R_below (by (with_reducible repeat (first | apply Kd.R_alloc | apply Kd.R_drewN | apply Kd.R_drew)); exact HO122.out) hb); have n2_ := Aside0.mk (Kd.R_below (by (with_reducible repeat (first | apply Kd.R_alloc | apply Kd.R_drewN | apply Kd.R_drew)); exact HO125.out) hb); have n3_ := Aside0.mk (blk_below (g := gb105) (o := .cells #[.int .u64 a3_0, .bool a3_1] 42 (0, 0)) (by (with_reducible repeat (first | refine blk_drewN ?_ _ | refine blk_drew ?_ | refine blk_alloc ?_ _)); exact BK105.out) hb); have n4_ := Aside0.mk (below_step (by repeat (first | (with_reducible first | exact HB.out | apply below_alloc | apply pw_below_drewN | apply below_drew1 | refine below_set ?_ GE105.out) | exact HB.out)) hb); clear HO_14; clear HO122; clear HO125; clear BK105; clear HB; have HO_14 := n0_; have HO122 := n1_; have HO125 := n2_; have BK105 := n3_; have HB := n4_; clear n0_ n1_ n2_ n3_ n4_; (try clear hb); (try clear hb2); (try clear hk); (try clear hi)))
                            (try subst hji34)
                            go_meet
                            case rel => exact ⟨_, (true), (by first | rfl | (simp; done) | (simp [*]; done)), H', ⟨by have := HJ5.out; have := HJ14.out; first | omega | exact Nat.le_refl _⟩, ⟨by (with_reducible repeat (first | apply Kd.R_alloc | apply Kd.R_drewN | apply Kd.R_drew)); exact Kd.R_mono HO_14.out (fun _ hk => hk.1.2)⟩, ⟨by (with_reducible repeat (first | refine blk_drewN ?_ _ | refine blk_drew ?_ | refine blk_alloc ?_ _)); exact BK105.out⟩, ⟨by repeat (first | (with_reducible first | exact HB.out | apply below_alloc | apply pw_below_drewN | apply below_drew1 | refine below_set ?_ GE105.out) | exact HB.out)⟩⟩
                          · replace c38 := Bool.eq_false_iff.mpr c38
                            subst c38
                            have H1 : ((merkle_Verify.f t108 (l0.length : Int) (l0.length : Int) (rdOf ByteArray.empty l0 (ji34)) t110).bind fun t129 => (if t129 = true then (wageofficelaw24_MerkleForms.j2 kj14 l0 a2 t106 (l0.length : Int) (ji34) t108 t110 true) else ((merkle_Verify.f t108 (l0.length : Int) (-1) (rdOf ByteArray.empty l0 (ji34)) t110).bind fun t131 => (if t131 = true then (wageofficelaw24_MerkleForms.j2 kj14 l0 a2 t106 (l0.length : Int) (ji34) t108 t110 true) else ((merkle_Verify.f t108 0 0 (rdOf ByteArray.empty l0 (ji34)) t110).bind fun t133 => (wageofficelaw24_MerkleForms.j2 kj14 l0 a2 t106 (l0.length : Int) (ji34) t108 t110 t133)))))) = some r := by rw [if_neg (show ¬ (false = true) by decide)] at H; exact H
                            clear H
                            have H := H1
                            clear H1
                            replace H := Option.bind_eq_some_iff.mp H
                            obtain ⟨t129, A410, H⟩ := H
                            replace H : (if t129 = true then (wageofficelaw24_MerkleForms.j2 kj14 l0 a2 t106 (l0.length : Int) (ji34) t108 t110 true) else ((merkle_Verify.f t108 (l0.length : Int) (-1) (rdOf ByteArray.empty l0 (ji34)) t110).bind fun t131 => (if t131 = true then (wageofficelaw24_MerkleForms.j2 kj14 l0 a2 t106 (l0.length : Int) (ji34) t108 t110 true) else ((merkle_Verify.f t108 0 0 (rdOf ByteArray.empty l0 (ji34)) t110).bind fun t133 => (wageofficelaw24_MerkleForms.j2 kj14 l0 a2 t106 (l0.length : Int) (ji34) t108 t110 t133))))) = some r := H
                            have A41 := Aside0.mk A410
                            clear A410
                            by_cases c42 : t129 = true
                            · subst c42
                              have H1 : (wageofficelaw24_MerkleForms.j2 kj14 l0 a2 t106 (l0.length : Int) (ji34) t108 t110 true) = some r := by rw [if_pos rfl] at H; exact H
                              clear H
                              have H := H1
                              clear H1
                              have H' := Aside0.mk H
                              clear H
                              have p126 : 0 ≤ ((ji34) : Int) := of_decide_eq_true (by first | (with_reducible assumption) | assumption)
                              have q126 : (ji34) < (l0.length : Int) := of_decide_eq_true (by first | (with_reducible assumption) | assumption)
                              obtain ⟨ad126, e126, hx126_0⟩ := Kd.at_string HR0.out (ji34) p126 q126
                              cases e126
                              replace hx126_0 := (HB.out.cell (World.block_lt_of_cell? w _ hx126_0)).trans hx126_0
                              replace p126 := eq_true p126
                              replace q126 := eq_true q126
                              obtain ⟨Ao43, co43, eo43⟩ := Kd.R_slice HO125.out
                              subst eo43
                              go_wp2_with (first | ((with_reducible refine gate_callee (f := 18) rfl ?_); refine goesL_ (some 67) rfl rfl Try.func18 (by kernel_rfl) rfl #[.int .u64 t108, .int .i64 (l0.length : Int), .int .i64 (ji34), .string (rdOf ByteArray.empty l0 (ji34)), .slice Ao43 y123.length co43] rfl (by (try simp only [List.map_toArray, List.map_cons, List.map_nil]); first | done | (simp only [hji34]; rfl) | rfl | (simp only [List.length_drop, List.length_take]; rfl)) ?_; (with_reducible refine (merkle_Verify.calls t108 (l0.length : Int) (ji34) (rdOf ByteArray.empty l0 (ji34)) _ _ y123 false _ ?side1 ?side2 A37.out).mono ?_); (case side1 => repeat (first | exact (Kd.R_reads' HO125.out).2.2 | (with_reducible refine Kd.C_alloc ?_ _) | (with_reducible refine Kd.C_drewN ?_ _) | (with_reducible refine Kd.C_drew ?_))); (case side2 => exact (Kd.R_reads' HO125.out).2.1); rintro e w44 ⟨rfl, hb⟩; refine ⟨_, rfl, ?_⟩; have n0_ := Aside0.mk (Kd.R_below (by (with_reducible repeat (first | apply Kd.R_alloc | apply Kd.R_drewN | apply Kd.R_drew)); exact HO_14.out) hb); have n1_ := Aside0.mk (Kd.R_below (by (with_reducible repeat (first | apply Kd.R_alloc | apply Kd.R_drewN | apply Kd.R_drew)); exact HO122.out) hb); have n2_ := Aside0.mk (Kd.R_below (by (with_reducible repeat (first | apply Kd.R_alloc | apply Kd.R_drewN | apply Kd.R_drew)); exact HO125.out) hb); have n3_ := Aside0.mk (blk_below (g := gb105) (o := .cells #[.int .u64 a3_0, .bool a3_1] 42 (0, 0)) (by (with_reducible repeat (first | refine blk_drewN ?_ _ | refine blk_drew ?_ | refine blk_alloc ?_ _)); exact BK105.out) hb); have n4_ := Aside0.mk (below_step (by repeat (first | (with_reducible first | exact HB.out | apply below_alloc | apply pw_below_drewN | apply below_drew1 | refine below_set ?_ GE105.out) | exact HB.out)) hb); clear HO_14; clear HO122; clear HO125; clear BK105; clear HB; have HO_14 := n0_; have HO122 := n1_; have HO125 := n2_; have BK105 := n3_; have HB := n4_; clear n0_ n1_ n2_ n3_ n4_; (try clear hb); (try clear hb2); (try clear hk); (try clear hi); have p128 : 0 ≤ ((ji34) : Int) := of_decide_eq_true (by first | (with_reducible assumption) | assumption); have q128 : (ji34) < (l0.length : Int) := of_decide_eq_true (by first | (with_reducible assumption) | assumption); obtain ⟨ad128, e128, hx128_0⟩ := Kd.at_string HR0.out (ji34) p128 q128; obtain rfl : ad126 = ad128 := (by injection e128); replace hx128_0 := (HB.out.cell (World.block_lt_of_cell? w _ hx128_0)).trans hx128_0; replace p128 := eq_true p128; replace q128 := eq_true q128) | (go_at_call 18; (with_reducible refine (merkle_Verify.calls t108 (l0.length : Int) (l0.length : Int) (rdOf ByteArray.empty l0 (ji34)) _ _ t110 true _ ?side1 ?side2 A41.out).mono ?_); (case side1 => repeat (first | exact (Kd.R_reads' HO_14.out).2.2 | (with_reducible refine Kd.C_alloc ?_ _) | (with_reducible refine Kd.C_drewN ?_ _) | (with_reducible refine Kd.C_drew ?_))); (case side2 => exact (Kd.R_reads' HO_14.out).2.1); rintro e w45 ⟨rfl, hb⟩; have n0_ := Aside0.mk (Kd.R_below (by (with_reducible repeat (first | apply Kd.R_alloc | apply Kd.R_drewN | apply Kd.R_drew)); exact HO_14.out) hb); have n1_ := Aside0.mk (Kd.R_below (by (with_reducible repeat (first | apply Kd.R_alloc | apply Kd.R_drewN | apply Kd.R_drew)); exact HO122.out) hb); have n2_ := Aside0.mk (Kd.R_below (by (with_reducible repeat (first | apply Kd.R_alloc | apply Kd.R_drewN | apply Kd.R_drew)); exact HO125.out) hb); have n3_ := Aside0.mk (blk_below (g := gb105) (o := .cells #[.int .u64 a3_0, .bool a3_1] 42 (0, 0)) (by (with_reducible repeat (first | refine blk_drewN ?_ _ | refine blk_drew ?_ | refine blk_alloc ?_ _)); exact BK105.out) hb); have n4_ := Aside0.mk (below_step (by repeat (first | (with_reducible first | exact HB.out | apply below_alloc | apply pw_below_drewN | apply below_drew1 | refine below_set ?_ GE105.out) | exact HB.out)) hb); clear HO_14; clear HO122; clear HO125; clear BK105; clear HB; have HO_14 := n0_; have HO122 := n1_; have HO125 := n2_; have BK105 := n3_; have HB := n4_; clear n0_ n1_ n2_ n3_ n4_; (try clear hb); (try clear hb2); (try clear hk); (try clear hi)))
                              (try subst hji34)
                              go_meet
                              case rel => exact ⟨_, (true), (by first | rfl | (simp; done) | (simp [*]; done)), H', ⟨by have := HJ5.out; have := HJ14.out; first | omega | exact Nat.le_refl _⟩, ⟨by (with_reducible repeat (first | apply Kd.R_alloc | apply Kd.R_drewN | apply Kd.R_drew)); exact Kd.R_mono HO_14.out (fun _ hk => hk.1.2)⟩, ⟨by (with_reducible repeat (first | refine blk_drewN ?_ _ | refine blk_drew ?_ | refine blk_alloc ?_ _)); exact BK105.out⟩, ⟨by repeat (first | (with_reducible first | exact HB.out | apply below_alloc | apply pw_below_drewN | apply below_drew1 | refine below_set ?_ GE105.out) | exact HB.out)⟩⟩
                            · replace c42 := Bool.eq_false_iff.mpr c42
                              subst c42
                              have H1 : ((merkle_Verify.f t108 (l0.length : Int) (-1) (rdOf ByteArray.empty l0 (ji34)) t110).bind fun t131 => (if t131 = true then (wageofficelaw24_MerkleForms.j2 kj14 l0 a2 t106 (l0.length : Int) (ji34) t108 t110 true) else ((merkle_Verify.f t108 0 0 (rdOf ByteArray.empty l0 (ji34)) t110).bind fun t133 => (wageofficelaw24_MerkleForms.j2 kj14 l0 a2 t106 (l0.length : Int) (ji34) t108 t110 t133)))) = some r := by rw [if_neg (show ¬ (false = true) by decide)] at H; exact H
                              clear H
                              have H := H1
                              clear H1
                              replace H := Option.bind_eq_some_iff.mp H
                              obtain ⟨t131, A460, H⟩ := H
                              replace H : (if t131 = true then (wageofficelaw24_MerkleForms.j2 kj14 l0 a2 t106 (l0.length : Int) (ji34) t108 t110 true) else ((merkle_Verify.f t108 0 0 (rdOf ByteArray.empty l0 (ji34)) t110).bind fun t133 => (wageofficelaw24_MerkleForms.j2 kj14 l0 a2 t106 (l0.length : Int) (ji34) t108 t110 t133))) = some r := H
                              have A46 := Aside0.mk A460
                              clear A460
                              by_cases c47 : t131 = true
                              · subst c47
                                have H1 : (wageofficelaw24_MerkleForms.j2 kj14 l0 a2 t106 (l0.length : Int) (ji34) t108 t110 true) = some r := by rw [if_pos rfl] at H; exact H
                                clear H
                                have H := H1
                                clear H1
                                have H' := Aside0.mk H
                                clear H
                                have p126 : 0 ≤ ((ji34) : Int) := of_decide_eq_true (by first | (with_reducible assumption) | assumption)
                                have q126 : (ji34) < (l0.length : Int) := of_decide_eq_true (by first | (with_reducible assumption) | assumption)
                                obtain ⟨ad126, e126, hx126_0⟩ := Kd.at_string HR0.out (ji34) p126 q126
                                cases e126
                                replace hx126_0 := (HB.out.cell (World.block_lt_of_cell? w _ hx126_0)).trans hx126_0
                                replace p126 := eq_true p126
                                replace q126 := eq_true q126
                                obtain ⟨Ao48, co48, eo48⟩ := Kd.R_slice HO125.out
                                subst eo48
                                go_wp2_with (first | ((with_reducible refine gate_callee (f := 18) rfl ?_); refine goesL_ (some 67) rfl rfl Try.func18 (by kernel_rfl) rfl #[.int .u64 t108, .int .i64 (l0.length : Int), .int .i64 (ji34), .string (rdOf ByteArray.empty l0 (ji34)), .slice Ao48 y123.length co48] rfl (by (try simp only [List.map_toArray, List.map_cons, List.map_nil]); first | done | (simp only [hji34]; rfl) | rfl | (simp only [List.length_drop, List.length_take]; rfl)) ?_; (with_reducible refine (merkle_Verify.calls t108 (l0.length : Int) (ji34) (rdOf ByteArray.empty l0 (ji34)) _ _ y123 false _ ?side1 ?side2 A37.out).mono ?_); (case side1 => repeat (first | exact (Kd.R_reads' HO125.out).2.2 | (with_reducible refine Kd.C_alloc ?_ _) | (with_reducible refine Kd.C_drewN ?_ _) | (with_reducible refine Kd.C_drew ?_))); (case side2 => exact (Kd.R_reads' HO125.out).2.1); rintro e w49 ⟨rfl, hb⟩; refine ⟨_, rfl, ?_⟩; have n0_ := Aside0.mk (Kd.R_below (by (with_reducible repeat (first | apply Kd.R_alloc | apply Kd.R_drewN | apply Kd.R_drew)); exact HO_14.out) hb); have n1_ := Aside0.mk (Kd.R_below (by (with_reducible repeat (first | apply Kd.R_alloc | apply Kd.R_drewN | apply Kd.R_drew)); exact HO122.out) hb); have n2_ := Aside0.mk (Kd.R_below (by (with_reducible repeat (first | apply Kd.R_alloc | apply Kd.R_drewN | apply Kd.R_drew)); exact HO125.out) hb); have n3_ := Aside0.mk (blk_below (g := gb105) (o := .cells #[.int .u64 a3_0, .bool a3_1] 42 (0, 0)) (by (with_reducible repeat (first | refine blk_drewN ?_ _ | refine blk_drew ?_ | refine blk_alloc ?_ _)); exact BK105.out) hb); have n4_ := Aside0.mk (below_step (by repeat (first | (with_reducible first | exact HB.out | apply below_alloc | apply pw_below_drewN | apply below_drew1 | refine below_set ?_ GE105.out) | exact HB.out)) hb); clear HO_14; clear HO122; clear HO125; clear BK105; clear HB; have HO_14 := n0_; have HO122 := n1_; have HO125 := n2_; have BK105 := n3_; have HB := n4_; clear n0_ n1_ n2_ n3_ n4_; (try clear hb); (try clear hb2); (try clear hk); (try clear hi); have p128 : 0 ≤ ((ji34) : Int) := of_decide_eq_true (by first | (with_reducible assumption) | assumption); have q128 : (ji34) < (l0.length : Int) := of_decide_eq_true (by first | (with_reducible assumption) | assumption); obtain ⟨ad128, e128, hx128_0⟩ := Kd.at_string HR0.out (ji34) p128 q128; obtain rfl : ad126 = ad128 := (by injection e128); replace hx128_0 := (HB.out.cell (World.block_lt_of_cell? w _ hx128_0)).trans hx128_0; replace p128 := eq_true p128; replace q128 := eq_true q128) | (go_at_call 18; (with_reducible refine (merkle_Verify.calls t108 (l0.length : Int) (l0.length : Int) (rdOf ByteArray.empty l0 (ji34)) _ _ t110 false _ ?side1 ?side2 A41.out).mono ?_); (case side1 => repeat (first | exact (Kd.R_reads' HO_14.out).2.2 | (with_reducible refine Kd.C_alloc ?_ _) | (with_reducible refine Kd.C_drewN ?_ _) | (with_reducible refine Kd.C_drew ?_))); (case side2 => exact (Kd.R_reads' HO_14.out).2.1); rintro e w50 ⟨rfl, hb⟩; have n0_ := Aside0.mk (Kd.R_below (by (with_reducible repeat (first | apply Kd.R_alloc | apply Kd.R_drewN | apply Kd.R_drew)); exact HO_14.out) hb); have n1_ := Aside0.mk (Kd.R_below (by (with_reducible repeat (first | apply Kd.R_alloc | apply Kd.R_drewN | apply Kd.R_drew)); exact HO122.out) hb); have n2_ := Aside0.mk (Kd.R_below (by (with_reducible repeat (first | apply Kd.R_alloc | apply Kd.R_drewN | apply Kd.R_drew)); exact HO125.out) hb); have n3_ := Aside0.mk (blk_below (g := gb105) (o := .cells #[.int .u64 a3_0, .bool a3_1] 42 (0, 0)) (by (with_reducible repeat (first | refine blk_drewN ?_ _ | refine blk_drew ?_ | refine blk_alloc ?_ _)); exact BK105.out) hb); have n4_ := Aside0.mk (below_step (by repeat (first | (with_reducible first | exact HB.out | apply below_alloc | apply pw_below_drewN | apply below_drew1 | refine below_set ?_ GE105.out) | exact HB.out)) hb); clear HO_14; clear HO122; clear HO125; clear BK105; clear HB; have HO_14 := n0_; have HO122 := n1_; have HO125 := n2_; have BK105 := n3_; have HB := n4_; clear n0_ n1_ n2_ n3_ n4_; (try clear hb); (try clear hb2); (try clear hk); (try clear hi); have p130 : 0 ≤ ((ji34) : Int) := of_decide_eq_true (by first | (with_reducible assumption) | assumption); have q130 : (ji34) < (l0.length : Int) := of_decide_eq_true (by first | (with_reducible assumption) | assumption); obtain ⟨ad130, e130, hx130_0⟩ := Kd.at_string HR0.out (ji34) p130 q130; obtain rfl : ad126 = ad130 := (by injection e130); replace hx130_0 := (HB.out.cell (World.block_lt_of_cell? w _ hx130_0)).trans hx130_0; replace p130 := eq_true p130; replace q130 := eq_true q130) | (go_at_call 18; (with_reducible refine (merkle_Verify.calls t108 (l0.length : Int) (-1) (rdOf ByteArray.empty l0 (ji34)) _ _ t110 true _ ?side1 ?side2 A46.out).mono ?_); (case side1 => repeat (first | exact (Kd.R_reads' HO_14.out).2.2 | (with_reducible refine Kd.C_alloc ?_ _) | (with_reducible refine Kd.C_drewN ?_ _) | (with_reducible refine Kd.C_drew ?_))); (case side2 => exact (Kd.R_reads' HO_14.out).2.1); rintro e w51 ⟨rfl, hb⟩; have n0_ := Aside0.mk (Kd.R_below (by (with_reducible repeat (first | apply Kd.R_alloc | apply Kd.R_drewN | apply Kd.R_drew)); exact HO_14.out) hb); have n1_ := Aside0.mk (Kd.R_below (by (with_reducible repeat (first | apply Kd.R_alloc | apply Kd.R_drewN | apply Kd.R_drew)); exact HO122.out) hb); have n2_ := Aside0.mk (Kd.R_below (by (with_reducible repeat (first | apply Kd.R_alloc | apply Kd.R_drewN | apply Kd.R_drew)); exact HO125.out) hb); have n3_ := Aside0.mk (blk_below (g := gb105) (o := .cells #[.int .u64 a3_0, .bool a3_1] 42 (0, 0)) (by (with_reducible repeat (first | refine blk_drewN ?_ _ | refine blk_drew ?_ | refine blk_alloc ?_ _)); exact BK105.out) hb); have n4_ := Aside0.mk (below_step (by repeat (first | (with_reducible first | exact HB.out | apply below_alloc | apply pw_below_drewN | apply below_drew1 | refine below_set ?_ GE105.out) | exact HB.out)) hb); clear HO_14; clear HO122; clear HO125; clear BK105; clear HB; have HO_14 := n0_; have HO122 := n1_; have HO125 := n2_; have BK105 := n3_; have HB := n4_; clear n0_ n1_ n2_ n3_ n4_; (try clear hb); (try clear hb2); (try clear hk); (try clear hi)))
                                (try subst hji34)
                                go_meet
                                case rel => exact ⟨_, (true), (by first | rfl | (simp; done) | (simp [*]; done)), H', ⟨by have := HJ5.out; have := HJ14.out; first | omega | exact Nat.le_refl _⟩, ⟨by (with_reducible repeat (first | apply Kd.R_alloc | apply Kd.R_drewN | apply Kd.R_drew)); exact Kd.R_mono HO_14.out (fun _ hk => hk.1.2)⟩, ⟨by (with_reducible repeat (first | refine blk_drewN ?_ _ | refine blk_drew ?_ | refine blk_alloc ?_ _)); exact BK105.out⟩, ⟨by repeat (first | (with_reducible first | exact HB.out | apply below_alloc | apply pw_below_drewN | apply below_drew1 | refine below_set ?_ GE105.out) | exact HB.out)⟩⟩
                              · replace c47 := Bool.eq_false_iff.mpr c47
                                subst c47
                                have H1 : ((merkle_Verify.f t108 0 0 (rdOf ByteArray.empty l0 (ji34)) t110).bind fun t133 => (wageofficelaw24_MerkleForms.j2 kj14 l0 a2 t106 (l0.length : Int) (ji34) t108 t110 t133)) = some r := by rw [if_neg (show ¬ (false = true) by decide)] at H; exact H
                                clear H
                                have H := H1
                                clear H1
                                replace H := Option.bind_eq_some_iff.mp H
                                obtain ⟨t133, A520, H⟩ := H
                                replace H : (wageofficelaw24_MerkleForms.j2 kj14 l0 a2 t106 (l0.length : Int) (ji34) t108 t110 t133) = some r := H
                                have A52 := Aside0.mk A520
                                clear A520
                                have H' := Aside0.mk H
                                clear H
                                have p126 : 0 ≤ ((ji34) : Int) := of_decide_eq_true (by first | (with_reducible assumption) | assumption)
                                have q126 : (ji34) < (l0.length : Int) := of_decide_eq_true (by first | (with_reducible assumption) | assumption)
                                obtain ⟨ad126, e126, hx126_0⟩ := Kd.at_string HR0.out (ji34) p126 q126
                                cases e126
                                replace hx126_0 := (HB.out.cell (World.block_lt_of_cell? w _ hx126_0)).trans hx126_0
                                replace p126 := eq_true p126
                                replace q126 := eq_true q126
                                obtain ⟨Ao53, co53, eo53⟩ := Kd.R_slice HO125.out
                                subst eo53
                                go_wp2_with (first | ((with_reducible refine gate_callee (f := 18) rfl ?_); refine goesL_ (some 67) rfl rfl Try.func18 (by kernel_rfl) rfl #[.int .u64 t108, .int .i64 (l0.length : Int), .int .i64 (ji34), .string (rdOf ByteArray.empty l0 (ji34)), .slice Ao53 y123.length co53] rfl (by (try simp only [List.map_toArray, List.map_cons, List.map_nil]); first | done | (simp only [hji34]; rfl) | rfl | (simp only [List.length_drop, List.length_take]; rfl)) ?_; (with_reducible refine (merkle_Verify.calls t108 (l0.length : Int) (ji34) (rdOf ByteArray.empty l0 (ji34)) _ _ y123 false _ ?side1 ?side2 A37.out).mono ?_); (case side1 => repeat (first | exact (Kd.R_reads' HO125.out).2.2 | (with_reducible refine Kd.C_alloc ?_ _) | (with_reducible refine Kd.C_drewN ?_ _) | (with_reducible refine Kd.C_drew ?_))); (case side2 => exact (Kd.R_reads' HO125.out).2.1); rintro e w54 ⟨rfl, hb⟩; refine ⟨_, rfl, ?_⟩; have n0_ := Aside0.mk (Kd.R_below (by (with_reducible repeat (first | apply Kd.R_alloc | apply Kd.R_drewN | apply Kd.R_drew)); exact HO_14.out) hb); have n1_ := Aside0.mk (Kd.R_below (by (with_reducible repeat (first | apply Kd.R_alloc | apply Kd.R_drewN | apply Kd.R_drew)); exact HO122.out) hb); have n2_ := Aside0.mk (Kd.R_below (by (with_reducible repeat (first | apply Kd.R_alloc | apply Kd.R_drewN | apply Kd.R_drew)); exact HO125.out) hb); have n3_ := Aside0.mk (blk_below (g := gb105) (o := .cells #[.int .u64 a3_0, .bool a3_1] 42 (0, 0)) (by (with_reducible repeat (first | refine blk_drewN ?_ _ | refine blk_drew ?_ | refine blk_alloc ?_ _)); exact BK105.out) hb); have n4_ := Aside0.mk (below_step (by repeat (first | (with_reducible first | exact HB.out | apply below_alloc | apply pw_below_drewN | apply below_drew1 | refine below_set ?_ GE105.out) | exact HB.out)) hb); clear HO_14; clear HO122; clear HO125; clear BK105; clear HB; have HO_14 := n0_; have HO122 := n1_; have HO125 := n2_; have BK105 := n3_; have HB := n4_; clear n0_ n1_ n2_ n3_ n4_; (try clear hb); (try clear hb2); (try clear hk); (try clear hi); have p128 : 0 ≤ ((ji34) : Int) := of_decide_eq_true (by first | (with_reducible assumption) | assumption); have q128 : (ji34) < (l0.length : Int) := of_decide_eq_true (by first | (with_reducible assumption) | assumption); obtain ⟨ad128, e128, hx128_0⟩ := Kd.at_string HR0.out (ji34) p128 q128; obtain rfl : ad126 = ad128 := (by injection e128); replace hx128_0 := (HB.out.cell (World.block_lt_of_cell? w _ hx128_0)).trans hx128_0; replace p128 := eq_true p128; replace q128 := eq_true q128) | (go_at_call 18; (with_reducible refine (merkle_Verify.calls t108 (l0.length : Int) (l0.length : Int) (rdOf ByteArray.empty l0 (ji34)) _ _ t110 false _ ?side1 ?side2 A41.out).mono ?_); (case side1 => repeat (first | exact (Kd.R_reads' HO_14.out).2.2 | (with_reducible refine Kd.C_alloc ?_ _) | (with_reducible refine Kd.C_drewN ?_ _) | (with_reducible refine Kd.C_drew ?_))); (case side2 => exact (Kd.R_reads' HO_14.out).2.1); rintro e w55 ⟨rfl, hb⟩; have n0_ := Aside0.mk (Kd.R_below (by (with_reducible repeat (first | apply Kd.R_alloc | apply Kd.R_drewN | apply Kd.R_drew)); exact HO_14.out) hb); have n1_ := Aside0.mk (Kd.R_below (by (with_reducible repeat (first | apply Kd.R_alloc | apply Kd.R_drewN | apply Kd.R_drew)); exact HO122.out) hb); have n2_ := Aside0.mk (Kd.R_below (by (with_reducible repeat (first | apply Kd.R_alloc | apply Kd.R_drewN | apply Kd.R_drew)); exact HO125.out) hb); have n3_ := Aside0.mk (blk_below (g := gb105) (o := .cells #[.int .u64 a3_0, .bool a3_1] 42 (0, 0)) (by (with_reducible repeat (first | refine blk_drewN ?_ _ | refine blk_drew ?_ | refine blk_alloc ?_ _)); exact BK105.out) hb); have n4_ := Aside0.mk (below_step (by repeat (first | (with_reducible first | exact HB.out | apply below_alloc | apply pw_below_drewN | apply below_drew1 | refine below_set ?_ GE105.out) | exact HB.out)) hb); clear HO_14; clear HO122; clear HO125; clear BK105; clear HB; have HO_14 := n0_; have HO122 := n1_; have HO125 := n2_; have BK105 := n3_; have HB := n4_; clear n0_ n1_ n2_ n3_ n4_; (try clear hb); (try clear hb2); (try clear hk); (try clear hi); have p130 : 0 ≤ ((ji34) : Int) := of_decide_eq_true (by first | (with_reducible assumption) | assumption); have q130 : (ji34) < (l0.length : Int) := of_decide_eq_true (by first | (with_reducible assumption) | assumption); obtain ⟨ad130, e130, hx130_0⟩ := Kd.at_string HR0.out (ji34) p130 q130; obtain rfl : ad126 = ad130 := (by injection e130); replace hx130_0 := (HB.out.cell (World.block_lt_of_cell? w _ hx130_0)).trans hx130_0; replace p130 := eq_true p130; replace q130 := eq_true q130) | (go_at_call 18; (with_reducible refine (merkle_Verify.calls t108 (l0.length : Int) (-1) (rdOf ByteArray.empty l0 (ji34)) _ _ t110 false _ ?side1 ?side2 A46.out).mono ?_); (case side1 => repeat (first | exact (Kd.R_reads' HO_14.out).2.2 | (with_reducible refine Kd.C_alloc ?_ _) | (with_reducible refine Kd.C_drewN ?_ _) | (with_reducible refine Kd.C_drew ?_))); (case side2 => exact (Kd.R_reads' HO_14.out).2.1); rintro e w56 ⟨rfl, hb⟩; have n0_ := Aside0.mk (Kd.R_below (by (with_reducible repeat (first | apply Kd.R_alloc | apply Kd.R_drewN | apply Kd.R_drew)); exact HO_14.out) hb); have n1_ := Aside0.mk (Kd.R_below (by (with_reducible repeat (first | apply Kd.R_alloc | apply Kd.R_drewN | apply Kd.R_drew)); exact HO122.out) hb); have n2_ := Aside0.mk (Kd.R_below (by (with_reducible repeat (first | apply Kd.R_alloc | apply Kd.R_drewN | apply Kd.R_drew)); exact HO125.out) hb); have n3_ := Aside0.mk (blk_below (g := gb105) (o := .cells #[.int .u64 a3_0, .bool a3_1] 42 (0, 0)) (by (with_reducible repeat (first | refine blk_drewN ?_ _ | refine blk_drew ?_ | refine blk_alloc ?_ _)); exact BK105.out) hb); have n4_ := Aside0.mk (below_step (by repeat (first | (with_reducible first | exact HB.out | apply below_alloc | apply pw_below_drewN | apply below_drew1 | refine below_set ?_ GE105.out) | exact HB.out)) hb); clear HO_14; clear HO122; clear HO125; clear BK105; clear HB; have HO_14 := n0_; have HO122 := n1_; have HO125 := n2_; have BK105 := n3_; have HB := n4_; clear n0_ n1_ n2_ n3_ n4_; (try clear hb); (try clear hb2); (try clear hk); (try clear hi); have p132 : 0 ≤ ((ji34) : Int) := of_decide_eq_true (by first | (with_reducible assumption) | assumption); have q132 : (ji34) < (l0.length : Int) := of_decide_eq_true (by first | (with_reducible assumption) | assumption); obtain ⟨ad132, e132, hx132_0⟩ := Kd.at_string HR0.out (ji34) p132 q132; obtain rfl : ad126 = ad132 := (by injection e132); replace hx132_0 := (HB.out.cell (World.block_lt_of_cell? w _ hx132_0)).trans hx132_0; replace p132 := eq_true p132; replace q132 := eq_true q132) | (go_at_call 18; (with_reducible refine (merkle_Verify.calls t108 0 0 (rdOf ByteArray.empty l0 (ji34)) _ _ t110 t133 _ ?side1 ?side2 A52.out).mono ?_); (case side1 => repeat (first | exact (Kd.R_reads' HO_14.out).2.2 | (with_reducible refine Kd.C_alloc ?_ _) | (with_reducible refine Kd.C_drewN ?_ _) | (with_reducible refine Kd.C_drew ?_))); (case side2 => exact (Kd.R_reads' HO_14.out).2.1); rintro e w57 ⟨rfl, hb⟩; have n0_ := Aside0.mk (Kd.R_below (by (with_reducible repeat (first | apply Kd.R_alloc | apply Kd.R_drewN | apply Kd.R_drew)); exact HO_14.out) hb); have n1_ := Aside0.mk (Kd.R_below (by (with_reducible repeat (first | apply Kd.R_alloc | apply Kd.R_drewN | apply Kd.R_drew)); exact HO122.out) hb); have n2_ := Aside0.mk (Kd.R_below (by (with_reducible repeat (first | apply Kd.R_alloc | apply Kd.R_drewN | apply Kd.R_drew)); exact HO125.out) hb); have n3_ := Aside0.mk (blk_below (g := gb105) (o := .cells #[.int .u64 a3_0, .bool a3_1] 42 (0, 0)) (by (with_reducible repeat (first | refine blk_drewN ?_ _ | refine blk_drew ?_ | refine blk_alloc ?_ _)); exact BK105.out) hb); have n4_ := Aside0.mk (below_step (by repeat (first | (with_reducible first | exact HB.out | apply below_alloc | apply pw_below_drewN | apply below_drew1 | refine below_set ?_ GE105.out) | exact HB.out)) hb); clear HO_14; clear HO122; clear HO125; clear BK105; clear HB; have HO_14 := n0_; have HO122 := n1_; have HO125 := n2_; have BK105 := n3_; have HB := n4_; clear n0_ n1_ n2_ n3_ n4_; (try clear hb); (try clear hb2); (try clear hk); (try clear hi)))
                                (try subst hji34)
                                go_meet
                                case rel => exact ⟨_, (t133), (by first | rfl | (simp; done) | (simp [*]; done)), H', ⟨by have := HJ5.out; have := HJ14.out; first | omega | exact Nat.le_refl _⟩, ⟨by (with_reducible repeat (first | apply Kd.R_alloc | apply Kd.R_drewN | apply Kd.R_drew)); exact Kd.R_mono HO_14.out (fun _ hk => hk.1.2)⟩, ⟨by (with_reducible repeat (first | refine blk_drewN ?_ _ | refine blk_drew ?_ | refine blk_alloc ?_ _)); exact BK105.out⟩, ⟨by repeat (first | (with_reducible first | exact HB.out | apply below_alloc | apply pw_below_drewN | apply below_drew1 | refine below_set ?_ GE105.out) | exact HB.out)⟩⟩
                        · rw [if_neg c36] at H
                          exact absurd H (by simp)
                      · rw [if_neg c35] at H
                        exact absurd H (by simp)
                    case rest =>
                      clear HC23
                      try clear c1
                      try clear p1
                      try clear q1
                      try clear hx1
                      try clear c2
                      try clear p2
                      try clear c3
                      try clear c4
                      try clear c6
                      try clear p6
                      try clear c10
                      try clear c11
                      try clear c12
                      try clear c12b0
                      try clear c12b1
                      try clear c12b2
                      try clear p12
                      try clear q12
                      try clear hx12
                      try clear c13
                      try clear p13
                      try clear q13
                      try clear hx13
                      try clear c15
                      try clear c18
                      try clear c18b0
                      try clear c18b1
                      try clear c20
                      try clear c21
                      try clear c22
                      try clear c35
                      try clear c35b0
                      try clear c36
                      try clear c36b0
                      try clear c38
                      try clear c42
                      try clear c47
                      try clear hx126_0
                      try clear hx128_0
                      try clear hx130_0
                      try clear hx132_0
                      try clear p126
                      try clear p128
                      try clear p130
                      try clear p132
                      try clear p2
                      try clear p6
                      try clear q126
                      try clear q128
                      try clear q130
                      try clear q132
                      obtain ⟨kq, x97_22, rfl, HA, HJ22, HO_14, BK105, HB⟩ := hcut
                      cases kq with
                      | zero => exact absurd HA.out (by simp [wageofficelaw24_MerkleForms.j2])
                      | succ kj22 =>
                        have H := HA.out
                        clear HA
                        simp only [wageofficelaw24_MerkleForms.j2] at H
                        by_cases c58 : x97_22 = true
                        · subst c58
                          have H1 : (some false) = some r := by rw [if_pos rfl] at H; exact H
                          clear H
                          have H := H1
                          clear H1
                          obtain rfl := Option.some.inj H
                          go_wp2
                          go_ret
                          exact ⟨by first | rfl | (simp [errW_none, errW_some] <;> rfl) | (simp [*, errW_none, errW_some] <;> rfl), by repeat (first | (with_reducible first | exact HB.out | apply below_alloc | apply pw_below_drewN | apply below_drew1 | refine below_set ?_ GE105.out) | exact HB.out)⟩
                        · replace c58 := Bool.eq_false_iff.mpr c58
                          subst c58
                          have H1 : (if (t110.length : Int) = 0 then (some t106) else ((some (([] : List (S42)) : List (S42))).bind fun y134 => (if y134.length + t110.length < 8796093022208 then ((some (y134 ++ t110 : List (S42))).bind fun y137 => (if 0 ≤ (Int.tmod (wrap64 (a2)) (t110.length : Int)) then (if (Int.tmod (wrap64 (a2)) (t110.length : Int)) < (y137.length : Int) then (if t106 = true then (if 0 ≤ (Int.tmod (wrap64 (a1)) (l0.length : Int)) then (if (Int.tmod (wrap64 (a1)) (l0.length : Int)) < (l0.length : Int) then ((merkle_Verify.f t108 (l0.length : Int) (Int.tmod (wrap64 (a1)) (l0.length : Int)) (rdOf ByteArray.empty l0 (Int.tmod (wrap64 (a1)) (l0.length : Int))) (y137.set ((Int.tmod (wrap64 (a2)) (t110.length : Int)) : Int).toNat (⟨(rd_T42 y137 (Int.tmod (wrap64 (a2)) (t110.length : Int))).f0, !((rd_T42 y137 (Int.tmod (wrap64 (a2)) (t110.length : Int))).f1)⟩ : S42))).bind fun t143 => (if t143 = true then (some false) else (if 0 ≤ (wrap64 ((t110.length : Int) - 1)) then (if (wrap64 ((t110.length : Int) - 1)) ≤ (t110.length : Int) then ((merkle_Verify.f t108 (l0.length : Int) (Int.tmod (wrap64 (a1)) (l0.length : Int)) (rdOf ByteArray.empty l0 (Int.tmod (wrap64 (a1)) (l0.length : Int))) (t110.take ((wrap64 ((t110.length : Int) - 1)) : Int).toNat)).bind fun t149 => (some (!t149))) else (none)) else (none)))) else (none)) else (none)) else (some false)) else (none)) else (none))) else (none)))) = some r := by rw [if_neg (show ¬ (false = true) by decide)] at H; exact H
                          clear H
                          have H := H1
                          clear H1
                          by_cases c59 : (t110.length : Int) = 0
                          · rw [if_pos c59] at H
                            have c59b0 : ((t110.length : Int) == 0) = true := beq_iff_eq.mpr c59
                            have c59b1 : ((t110.length : Int) != 0) = false := bne_eq_false_iff_eq.mpr c59
                            clear c59
                            obtain rfl := Option.some.inj H
                            go_wp2
                            go_ret
                            exact ⟨by first | rfl | (simp [errW_none, errW_some] <;> rfl) | (simp [*, errW_none, errW_some] <;> rfl), by repeat (first | (with_reducible first | exact HB.out | apply below_alloc | apply pw_below_drewN | apply below_drew1 | refine below_set ?_ GE105.out) | exact HB.out)⟩
                          · rw [if_neg c59] at H
                            have c59b0 : ((t110.length : Int) == 0) = false := beq_eq_false_iff_ne.mpr c59
                            have c59b1 : ((t110.length : Int) != 0) = true := bne_iff_ne.mpr c59
                            have c59b2 : ¬ (t110 = []) := fun h_ => c59 (by rw [h_]; rfl)
                            obtain ⟨y134, hy134⟩ : ∃ y_ : List (S42), y_ = (([] : List (S42))) := ⟨_, rfl⟩
                            replace H : (if y134.length + t110.length < 8796093022208 then ((some (y134 ++ t110 : List (S42))).bind fun y137 => (if 0 ≤ (Int.tmod (wrap64 (a2)) (t110.length : Int)) then (if (Int.tmod (wrap64 (a2)) (t110.length : Int)) < (y137.length : Int) then (if t106 = true then (if 0 ≤ (Int.tmod (wrap64 (a1)) (l0.length : Int)) then (if (Int.tmod (wrap64 (a1)) (l0.length : Int)) < (l0.length : Int) then ((merkle_Verify.f t108 (l0.length : Int) (Int.tmod (wrap64 (a1)) (l0.length : Int)) (rdOf ByteArray.empty l0 (Int.tmod (wrap64 (a1)) (l0.length : Int))) (y137.set ((Int.tmod (wrap64 (a2)) (t110.length : Int)) : Int).toNat (⟨(rd_T42 y137 (Int.tmod (wrap64 (a2)) (t110.length : Int))).f0, !((rd_T42 y137 (Int.tmod (wrap64 (a2)) (t110.length : Int))).f1)⟩ : S42))).bind fun t143 => (if t143 = true then (some false) else (if 0 ≤ (wrap64 ((t110.length : Int) - 1)) then (if (wrap64 ((t110.length : Int) - 1)) ≤ (t110.length : Int) then ((merkle_Verify.f t108 (l0.length : Int) (Int.tmod (wrap64 (a1)) (l0.length : Int)) (rdOf ByteArray.empty l0 (Int.tmod (wrap64 (a1)) (l0.length : Int))) (t110.take ((wrap64 ((t110.length : Int) - 1)) : Int).toNat)).bind fun t149 => (some (!t149))) else (none)) else (none)))) else (none)) else (none)) else (some false)) else (none)) else (none))) else (none)) = some r := by first | (rw [hy134]; with_reducible exact H) | (have H2_ := (Option.bind_some _ _).symm.trans H; rw [hy134]; with_reducible exact H2_) | (have H2_ := (Option.bind_some _ _).symm.trans H; with_reducible exact H2_) | with_reducible exact H | (rw [hy134]; exact H) | exact H
                            have Ny134 := Aside0.mk hy134
                            clear hy134
                            by_cases c60 : y134.length + t110.length < 8796093022208
                            · rw [if_pos c60] at H
                              have LMc60 := Aside0.mk c60
                              clear c60
                              obtain ⟨y137, hy137⟩ : ∃ y_ : List (S42), y_ = (y134 ++ t110) := ⟨_, rfl⟩
                              replace H : (if 0 ≤ (Int.tmod (wrap64 (a2)) (t110.length : Int)) then (if (Int.tmod (wrap64 (a2)) (t110.length : Int)) < (y137.length : Int) then (if t106 = true then (if 0 ≤ (Int.tmod (wrap64 (a1)) (l0.length : Int)) then (if (Int.tmod (wrap64 (a1)) (l0.length : Int)) < (l0.length : Int) then ((merkle_Verify.f t108 (l0.length : Int) (Int.tmod (wrap64 (a1)) (l0.length : Int)) (rdOf ByteArray.empty l0 (Int.tmod (wrap64 (a1)) (l0.length : Int))) (y137.set ((Int.tmod (wrap64 (a2)) (t110.length : Int)) : Int).toNat (⟨(rd_T42 y137 (Int.tmod (wrap64 (a2)) (t110.length : Int))).f0, !((rd_T42 y137 (Int.tmod (wrap64 (a2)) (t110.length : Int))).f1)⟩ : S42))).bind fun t143 => (if t143 = true then (some false) else (if 0 ≤ (wrap64 ((t110.length : Int) - 1)) then (if (wrap64 ((t110.length : Int) - 1)) ≤ (t110.length : Int) then ((merkle_Verify.f t108 (l0.length : Int) (Int.tmod (wrap64 (a1)) (l0.length : Int)) (rdOf ByteArray.empty l0 (Int.tmod (wrap64 (a1)) (l0.length : Int))) (t110.take ((wrap64 ((t110.length : Int) - 1)) : Int).toNat)).bind fun t149 => (some (!t149))) else (none)) else (none)))) else (none)) else (none)) else (some false)) else (none)) else (none)) = some r := by first | (rw [hy137]; with_reducible exact H) | (have H2_ := (Option.bind_some _ _).symm.trans H; rw [hy137]; with_reducible exact H2_) | (have H2_ := (Option.bind_some _ _).symm.trans H; with_reducible exact H2_) | with_reducible exact H | (rw [hy137]; exact H) | exact H
                              have Ny137 := Aside0.mk hy137
                              clear hy137
                              obtain ⟨ji61, hji61⟩ : ∃ j_ : Int, (Int.tmod (wrap64 (a2)) (t110.length : Int)) = j_ := ⟨_, rfl⟩
                              replace H : (if 0 ≤ (ji61) then (if (ji61) < (y137.length : Int) then (if t106 = true then (if 0 ≤ (Int.tmod (wrap64 (a1)) (l0.length : Int)) then (if (Int.tmod (wrap64 (a1)) (l0.length : Int)) < (l0.length : Int) then ((merkle_Verify.f t108 (l0.length : Int) (Int.tmod (wrap64 (a1)) (l0.length : Int)) (rdOf ByteArray.empty l0 (Int.tmod (wrap64 (a1)) (l0.length : Int))) (y137.set ((ji61) : Int).toNat (⟨(rd_T42 y137 (ji61)).f0, !((rd_T42 y137 (ji61)).f1)⟩ : S42))).bind fun t143 => (if t143 = true then (some false) else (if 0 ≤ (wrap64 ((t110.length : Int) - 1)) then (if (wrap64 ((t110.length : Int) - 1)) ≤ (t110.length : Int) then ((merkle_Verify.f t108 (l0.length : Int) (Int.tmod (wrap64 (a1)) (l0.length : Int)) (rdOf ByteArray.empty l0 (Int.tmod (wrap64 (a1)) (l0.length : Int))) (t110.take ((wrap64 ((t110.length : Int) - 1)) : Int).toNat)).bind fun t149 => (some (!t149))) else (none)) else (none)))) else (none)) else (none)) else (some false)) else (none)) else (none)) = some r := by first | (rw [hji61] at H; exact H) | (simp only [hji61] at H ⊢; exact H)
                              by_cases c62 : 0 ≤ (ji61)
                              · rw [if_pos c62] at H
                                have c62b0 : decide (0 ≤ (ji61)) = true := decide_eq_true c62
                                clear c62
                                by_cases c63 : (ji61) < (y137.length : Int)
                                · rw [if_pos c63] at H
                                  have c63b0 : decide ((ji61) < (y137.length : Int)) = true := decide_eq_true c63
                                  clear c63
                                  obtain ⟨y141, hy141⟩ : ∃ y_ : List (S42), y_ = (y137.set ((ji61) : Int).toNat (⟨(rd_T42 y137 (ji61)).f0, !((rd_T42 y137 (ji61)).f1)⟩ : S42)) := ⟨_, rfl⟩
                                  replace H : (if t106 = true then (if 0 ≤ (Int.tmod (wrap64 (a1)) (l0.length : Int)) then (if (Int.tmod (wrap64 (a1)) (l0.length : Int)) < (l0.length : Int) then ((merkle_Verify.f t108 (l0.length : Int) (Int.tmod (wrap64 (a1)) (l0.length : Int)) (rdOf ByteArray.empty l0 (Int.tmod (wrap64 (a1)) (l0.length : Int))) y141).bind fun t143 => (if t143 = true then (some false) else (if 0 ≤ (wrap64 ((t110.length : Int) - 1)) then (if (wrap64 ((t110.length : Int) - 1)) ≤ (t110.length : Int) then ((merkle_Verify.f t108 (l0.length : Int) (Int.tmod (wrap64 (a1)) (l0.length : Int)) (rdOf ByteArray.empty l0 (Int.tmod (wrap64 (a1)) (l0.length : Int))) (t110.take ((wrap64 ((t110.length : Int) - 1)) : Int).toNat)).bind fun t149 => (some (!t149))) else (none)) else (none)))) else (none)) else (none)) else (some false)) = some r := by first | (rw [hy141]; with_reducible exact H) | (have H2_ := (Option.bind_some _ _).symm.trans H; rw [hy141]; with_reducible exact H2_) | (have H2_ := (Option.bind_some _ _).symm.trans H; with_reducible exact H2_) | with_reducible exact H | (rw [hy141]; exact H) | exact H
                                  have Ny141 := Aside0.mk hy141
                                  clear hy141
                                  by_cases c65 : t106 = true
                                  · subst c65
                                    have H1 : (if 0 ≤ (Int.tmod (wrap64 (a1)) (l0.length : Int)) then (if (Int.tmod (wrap64 (a1)) (l0.length : Int)) < (l0.length : Int) then ((merkle_Verify.f t108 (l0.length : Int) (Int.tmod (wrap64 (a1)) (l0.length : Int)) (rdOf ByteArray.empty l0 (Int.tmod (wrap64 (a1)) (l0.length : Int))) y141).bind fun t143 => (if t143 = true then (some false) else (if 0 ≤ (wrap64 ((t110.length : Int) - 1)) then (if (wrap64 ((t110.length : Int) - 1)) ≤ (t110.length : Int) then ((merkle_Verify.f t108 (l0.length : Int) (Int.tmod (wrap64 (a1)) (l0.length : Int)) (rdOf ByteArray.empty l0 (Int.tmod (wrap64 (a1)) (l0.length : Int))) (t110.take ((wrap64 ((t110.length : Int) - 1)) : Int).toNat)).bind fun t149 => (some (!t149))) else (none)) else (none)))) else (none)) else (none)) = some r := by rw [if_pos rfl] at H; exact H
                                    clear H
                                    have H := H1
                                    clear H1
                                    obtain ⟨ji66, hji66⟩ : ∃ j_ : Int, (Int.tmod (wrap64 (a1)) (l0.length : Int)) = j_ := ⟨_, rfl⟩
                                    replace H : (if 0 ≤ (ji66) then (if (ji66) < (l0.length : Int) then ((merkle_Verify.f t108 (l0.length : Int) (ji66) (rdOf ByteArray.empty l0 (ji66)) y141).bind fun t143 => (if t143 = true then (some false) else (if 0 ≤ (wrap64 ((t110.length : Int) - 1)) then (if (wrap64 ((t110.length : Int) - 1)) ≤ (t110.length : Int) then ((merkle_Verify.f t108 (l0.length : Int) (ji66) (rdOf ByteArray.empty l0 (ji66)) (t110.take ((wrap64 ((t110.length : Int) - 1)) : Int).toNat)).bind fun t149 => (some (!t149))) else (none)) else (none)))) else (none)) else (none)) = some r := by first | (rw [hji66] at H; exact H) | (simp only [hji66] at H ⊢; exact H)
                                    by_cases c67 : 0 ≤ (ji66)
                                    · rw [if_pos c67] at H
                                      have c67b0 : decide (0 ≤ (ji66)) = true := decide_eq_true c67
                                      clear c67
                                      by_cases c68 : (ji66) < (l0.length : Int)
                                      · rw [if_pos c68] at H
                                        have c68b0 : decide ((ji66) < (l0.length : Int)) = true := decide_eq_true c68
                                        clear c68
                                        replace H := Option.bind_eq_some_iff.mp H
                                        obtain ⟨t143, A690, H⟩ := H
                                        replace H : (if t143 = true then (some false) else (if 0 ≤ (wrap64 ((t110.length : Int) - 1)) then (if (wrap64 ((t110.length : Int) - 1)) ≤ (t110.length : Int) then ((merkle_Verify.f t108 (l0.length : Int) (ji66) (rdOf ByteArray.empty l0 (ji66)) (t110.take ((wrap64 ((t110.length : Int) - 1)) : Int).toNat)).bind fun t149 => (some (!t149))) else (none)) else (none))) = some r := H
                                        have A69 := Aside0.mk A690
                                        clear A690
                                        by_cases c70 : t143 = true
                                        · subst c70
                                          have H1 : (some false) = some r := by rw [if_pos rfl] at H; exact H
                                          clear H
                                          have H := H1
                                          clear H1
                                          obtain rfl := Option.some.inj H
                                          try go_wp2_with (first | ((with_reducible refine gate_dst (N := 102) rfl ?_); (try (refine gate_guard (by rfl) ?_; dsimp only)); refine Kd.R_lit k42 _ 42 ?hg (N := 102) ?hd (xs := ([] : List (S42))) (inner := []) (ok := fun _ => True) (okp := fun _ => True) ?hr ?hp (fun _ hk => hk) trivial (Below.refl _ _) (Nat.le_refl _) (by simp) ?_; (case hd => rfl); (case hg => rfl); (case hr => first | (go_simp; done) | (go_simp; rfl)); (case hp => exact (Reps.none _ _)); intro v135 w71 ho72 hb hg_ hnew_; clear hg_ hnew_; (first | rw [← Ny134.out] at ho72 | (simp only [Int.reduceToNat] at ho72; rw [← Ny134.out] at ho72)); have n0_ := Aside0.mk (Kd.R_elder' (by (with_reducible repeat (first | apply Kd.R_alloc | apply Kd.R_drewN | apply Kd.R_drew)); exact HO_14.out) (Kd.R_base ho72) hb); have n1_ := Aside0.mk (Kd.R_lower (Kd.R_newB (Kd.R_new' ho72 (Kd.R_lt (by (with_reducible repeat (first | apply Kd.R_alloc | apply Kd.R_drewN | apply Kd.R_drew)); exact HO_14.out))) (g := gb105) (o := .cells #[.int .u64 a3_0, .bool a3_1] 42 (0, 0)) (by (with_reducible repeat (first | refine blk_drewN ?_ _ | refine blk_drew ?_ | refine blk_alloc ?_ _)); exact BK105.out)) (below_size (by repeat (first | (with_reducible first | exact HB.out | apply below_alloc | apply pw_below_drewN | apply below_drew1 | refine below_set ?_ GE105.out) | exact HB.out)))); have n2_ := Aside0.mk (blk_below (g := gb105) (o := .cells #[.int .u64 a3_0, .bool a3_1] 42 (0, 0)) (by (with_reducible repeat (first | refine blk_drewN ?_ _ | refine blk_drew ?_ | refine blk_alloc ?_ _)); exact BK105.out) hb); have n3_ := Aside0.mk (below_step (by repeat (first | (with_reducible first | exact HB.out | apply below_alloc | apply pw_below_drewN | apply below_drew1 | refine below_set ?_ GE105.out) | exact HB.out)) hb); clear HO_14; clear BK105; clear HB; have HO_14 := n0_; have HO136 := n1_; have BK105 := n2_; have HB := n3_; clear n0_ n1_ n2_ n3_; clear hb ho72) | ((with_reducible refine gate_builtin (b := .append) (xs := #[.tmp 102, .tmp 103]) rfl ?_); (try (refine gate_guard (by rfl) ?_; dsimp only)); at_builtin; refine Kd.R_append_rows k42 (w0 := w) w.heap.size rfl (.tmp 102) (.tmp 103) 25 42 (.agg #[(.int .u64 0), (.bool false)]) 16 rfl Try.underlying25 info42 rfl (by decide) (by omega) v135 y134 t110 _ _ _ (fun k_ => some k_ ≠ (.slice Ao24 t110.length co24 : Value).ownBlock ∧ k_ ≠ gb105) (fun _ => False) rfl rfl ?aO ?aR (fun _ _ h => h) (fun _ h => h.elim) ?aF ?aB ?aS ?aL ?_; (case aR => repeat (first | exact (Kd.R_reads' HO_14.out).2.2 | (with_reducible refine Kd.C_alloc ?_ _) | (with_reducible refine Kd.C_drewN ?_ _) | (with_reducible refine Kd.C_drew ?_))); (case aB => exact (by repeat (first | (with_reducible first | exact HB.out | apply below_alloc | apply pw_below_drewN | apply below_drew1 | refine below_set ?_ GE105.out) | exact HB.out))); (case aF => exact (fun k_ hk => ⟨Kd.fresh' (Kd.R_lt (by (with_reducible repeat (first | apply Kd.R_alloc | apply Kd.R_drewN | apply Kd.R_drew)); exact HO_14.out)) k_ hk, Kd.freshB (g := gb105) (o := .cells #[.int .u64 a3_0, .bool a3_1] 42 (0, 0)) (by (with_reducible repeat (first | refine blk_drewN ?_ _ | refine blk_drew ?_ | refine blk_alloc ?_ _)); exact BK105.out) k_ hk⟩)); (case aO => exact (by (with_reducible repeat (first | apply Kd.R_alloc | apply Kd.R_drewN | apply Kd.R_drew)); exact Kd.R_mono HO136.out (fun _ hk => ⟨hk.1.2, hk.2⟩))); (case aS => exact (below_size (by repeat (first | (with_reducible first | exact HB.out | apply below_alloc | apply pw_below_drewN | apply below_drew1 | refine below_set ?_ GE105.out) | exact HB.out)))); (case aL => have := LMc60.out; omega); intro v138 w73 ho hb hg hat; rw [← Ny137.out] at ho; have n0_ := Aside0.mk (Kd.R_after (ok := (fun k_ => k_ ≠ gb105)) (by (with_reducible repeat (first | apply Kd.R_alloc | apply Kd.R_drewN | apply Kd.R_drew)); exact HO_14.out) hg hat); have n1_ := Aside0.mk (blk_grown (g := gb105) (o := .cells #[.int .u64 a3_0, .bool a3_1] 42 (0, 0)) (by (with_reducible repeat (first | refine blk_drewN ?_ _ | refine blk_drew ?_ | refine blk_alloc ?_ _)); exact BK105.out) hg (Kd.R_away HO136.out (fun _ hk => hk.2))); have n2_ := Aside0.mk (hb); have n3_ := Aside0.mk (ho); clear HO_14; clear BK105; clear HB; clear HO136; have HO_14 := n0_; have BK105 := n1_; have HB := n2_; have HO139 := n3_; clear n0_ n1_ n2_ n3_; clear ho hb hg hat; obtain ⟨Ao74, co74, eo74⟩ := Kd.R_slice HO139.out; subst eo74; have p140 : 0 ≤ ((ji61) : Int) := of_decide_eq_true (by first | (with_reducible assumption) | assumption); have q140 : (ji61) < (y137.length : Int) := of_decide_eq_true (by first | (with_reducible assumption) | assumption); obtain ⟨ad140, e140, hx140_0, hx140_1⟩ := at_T42 (Kd.R_reads' HO139.out).2.2 (ji61) p140 q140; cases e140; replace p140 := eq_true p140; replace q140 := eq_true q140; have p64 : 0 ≤ ((ji61) : Int) := of_decide_eq_true (by first | (with_reducible assumption) | assumption); have q64 : ((ji61) : Int) < ((y137.length : Int) : Int) := of_decide_eq_true (by first | (with_reducible assumption) | assumption); obtain ⟨go64, co64, eo64, gb64, gl64, cl64, HG64⟩ := Kd.R_form HO139.out (by omega); (first | cases eo64 | (injection eo64 with ea_ en_ ec_; (first | subst ea_ | (injection ea_ with ea_; subst ea_)); subst ec_; clear en_)); have GB64 := Aside0.mk gb64; have GG64 := Aside0.mk HG64; clear gb64 gl64 HG64; (first | simp only [add_plain] at hx140_0 | skip); (first | simp only [add_plain] at hx140_1 | skip); obtain ⟨ce64, hcl64, hM64, hcc64, hfr64⟩ := Kd.R_elem HO139.out z42 ((ji61) : Int) p64 q64; obtain rfl := k42_openM hM64; have hx64_0 : w73.cell? ⟨go64, ((ji61) : Int).toNat * 2, none⟩ = some (.int .u64 ((rd_T42 y137 (ji61)).f0)) := hcc64 0 _ rfl; have hx64_1 : w73.cell? ⟨go64, ((ji61) : Int).toNat * 2 + 1, none⟩ = some (.bool ((rd_T42 y137 (ji61)).f1)) := hcc64 1 _ rfl; have hf64_0 : w73.frozen? ⟨go64, ((ji61) : Int).toNat * 2, none⟩ = false := hfr64 0; have hf64_1 : w73.frozen? ⟨go64, ((ji61) : Int).toNat * 2 + 1, none⟩ = false := hfr64 1; clear hcl64 hcc64 hfr64 hM64; replace p64 := eq_true p64; replace q64 := eq_true q64; have HX75 := Aside0.mk (show Kd.R k42 42 w73 w.heap.size (fun k_ => some k_ ≠ (.slice Ao24 t110.length co24 : Value).ownBlock ∧ k_ ≠ gb105) (.slice (some ⟨go64, 0, none⟩) y137.length co74) y137 from (by (with_reducible repeat (first | apply Kd.R_alloc | apply Kd.R_drewN | apply Kd.R_drew)); exact HO139.out)); obtain ⟨ce75, hcl75, hM75, hcc75, hfr75⟩ := Kd.R_elem HX75.out z42 ((ji61) : Int) (of_decide_eq_true (by first | (with_reducible assumption) | assumption)) (by have h_ : ((ji61) : Int) < ((y137.length : Int) : Int) := of_decide_eq_true (by first | (with_reducible assumption) | assumption); first | exact h_ | (have e_ := (Kd.R_reads' HO139.out).1; omega) | simpa using h_); obtain rfl := k42_openM hM75; have HP75 := Kd.R_seg HX75.out ((ji61) : Int) (of_decide_eq_true (by first | (with_reducible assumption) | assumption)) (by have h_ : ((ji61) : Int) < ((y137.length : Int) : Int) := of_decide_eq_true (by first | (with_reducible assumption) | assumption); first | exact h_ | (have e_ := (Kd.R_reads' HO139.out).1; omega) | simpa using h_) (seg := [.bool (!((rd_T42 y137 (ji61)).f1))]) (j := 1) hcl75 hcc75 (show 2 ≤ 2 from by decide) (x' := (⟨(rd_T42 y137 (ji61)).f0, !((rd_T42 y137 (ji61)).f1)⟩ : S42)) (k42_mkM _ _ _ (⟨(rd_T42 y137 (ji61)).f0, !((rd_T42 y137 (ji61)).f1)⟩ : S42) ) (fun _ hk => hk); have hx75_1 := hcc75 1 _ rfl; (try simp only [show (k42).sz = 2 from rfl, Nat.mul_one, Nat.add_zero] at hx75_1); have hf75_1 := hfr75 1; (try simp only [show (k42).sz = 2 from rfl, Nat.mul_one, Nat.add_zero] at hf75_1); clear hcl75 hcc75 hfr75 hM75) | ((with_reducible refine gate_store (t := 4) (p := 119) rfl ?_); refine store_event (t := 4) (p := 119) (v := ?vo_w76) (w1 := (w73.setCell ⟨go64, ((ji61) : Int).toNat * 2 + 1, none⟩ (.bool (!((rd_T42 y137 (ji61)).f1))))) ?hg ?ho ?hn ?hr ?_; (case ho => rfl); (case hg => rfl); (case hn => rfl); (case hr => first | (go_simp; done) | (go_simp; rfl)); intro w76 hw; have hg : w73.grownBy w76 (some go64) := (by rw [hw]; exact HP75.2); have hp_ : Kd.R k42 42 w76 w.heap.size (fun k_ => some k_ ≠ (.slice Ao24 t110.length co24 : Value).ownBlock ∧ k_ ≠ gb105) (.slice (some ⟨go64, 0, none⟩) y137.length co74) y141 := (by rw [hw, Ny141.out]; exact HP75.1); clear HP75; have n0_ := Aside0.mk (Kd.R_after (v := (.slice (some ⟨go64, 0, none⟩) y137.length co74)) (v1 := (.slice (some ⟨go64, 0, none⟩) y137.length co74)) (ok := (fun k_ => k_ ≠ gb105)) (by (with_reducible repeat (first | apply Kd.R_alloc | apply Kd.R_drewN | apply Kd.R_drew)); exact HO_14.out) hg (.inl rfl)); have n1_ := Aside0.mk (blk_grown (g := gb105) (o := .cells #[.int .u64 a3_0, .bool a3_1] 42 (0, 0)) (by (with_reducible repeat (first | refine blk_drewN ?_ _ | refine blk_drew ?_ | refine blk_alloc ?_ _)); exact BK105.out) hg (Kd.R_away HO139.out (fun _ hk => hk.2))); have n2_ := Aside0.mk (hp_); have n3_ := Aside0.mk ((by rw [hw]; exact below_set (HB.out) GB64.out : Below w.heap.size w w76)); clear HO_14; clear BK105; clear HO139; clear HB; have HO_14 := n0_; have BK105 := n1_; have HO139 := n2_; have HB := n3_; clear n0_ n1_ n2_ n3_; clear hg hw hp_))
                                          have n0_ := Aside0.mk (Kd.R_drew HO_14.out)
                                          have n1_ := Aside0.mk (Kd.R_drew HO139.out)
                                          have n2_ := Aside0.mk (blk_drew BK105.out)
                                          have n3_ := Aside0.mk (below_drew1 HB.out)
                                          clear HO_14
                                          clear HO139
                                          clear BK105
                                          clear HB
                                          have HO_14 := n0_
                                          have HO139 := n1_
                                          have BK105 := n2_
                                          have HB := n3_
                                          clear n0_ n1_ n2_ n3_
                                          have p142 : 0 ≤ ((ji66) : Int) := of_decide_eq_true (by first | (with_reducible assumption) | assumption)
                                          have q142 : (ji66) < (l0.length : Int) := of_decide_eq_true (by first | (with_reducible assumption) | assumption)
                                          obtain ⟨ad142, e142, hx142_0⟩ := Kd.at_string HR0.out (ji66) p142 q142
                                          have hw142_0 := hx142_0
                                          cases e142
                                          replace hx142_0 := (HB.out.cell (World.block_lt_of_cell? w _ hx142_0)).trans hx142_0
                                          replace p142 := eq_true p142
                                          replace q142 := eq_true q142
                                          refine start_ (n := 30) (S := fun w' => w'.cell? (ad142.add ((ji66)).toNat) = some (.string (rdOf ByteArray.empty l0 (ji66)))) (ds := []) #[false, false, false, false, false, false, false, false, false, false, false, false, false, false, false, false, false, false, false, false, false, false, false, false, false, false, false, false, false, false] (by kernel_rfl) rfl rfl (((HB.out.cell (World.block_lt_of_cell? w _ hw142_0)).trans hw142_0)) (fun hHeld => ?_); refine with_tabW wageofficelaw24_MerkleForms.tab18 wageofficelaw24_MerkleForms.bits18 (fun HT_ HW_ => ?_)
                                          generalize w76.drew = w77 at HO_14 HO139 BK105 HB hx142_0 hHeld ⊢
                                          refine pure_ (i := 0) (N := some 120) (v := ?_) (a' := ?_) #[true, false, false, false, false, false, false, false, false, false, false, false, false, false, false, false, false, false, false, false, false, false, false, false, false, false, false, false, false, false] rfl rfl (any_of HT_.out (by kernel_rfl)) (fun _ _ _ h => h) (Or.inl ⟨by rfl, ?_⟩) ?_ ?_
                                          rotate_left
                                          · intro w'
                                            go_simp
                                            with_reducible rfl
                                          rotate_left
                                          · simp only [Act.put, List.setIfInBounds_toArray, List.set_cons_zero, List.set_cons_succ, i64_w, i32_w]
                                            rfl
                                          refine pure_ (i := 1) (N := some 121) (v := ?_) (a' := ?_) #[true, true, false, false, false, false, false, false, false, false, false, false, false, false, false, false, false, false, false, false, false, false, false, false, false, false, false, false, false, false] rfl rfl (any_of HT_.out (by kernel_rfl)) (fun _ _ _ h => h) (Or.inl ⟨by rfl, ?_⟩) ?_ ?_
                                          rotate_left
                                          · intro w'
                                            go_simp
                                            with_reducible rfl
                                          rotate_left
                                          · simp only [Act.put, List.setIfInBounds_toArray, List.set_cons_zero, List.set_cons_succ, i64_w, i32_w]
                                            rfl
                                          refine pure_ (i := 2) (N := some 122) (v := ?_) (a' := ?_) #[true, true, true, false, false, false, false, false, false, false, false, false, false, false, false, false, false, false, false, false, false, false, false, false, false, false, false, false, false, false] rfl rfl (any_of HT_.out (by kernel_rfl)) (fun _ _ _ h => h) (Or.inl ⟨by rfl, ?_⟩) ?_ ?_
                                          rotate_left
                                          · intro w'
                                            go_simp
                                            with_reducible rfl
                                          rotate_left
                                          · simp only [Act.put, List.setIfInBounds_toArray, List.set_cons_zero, List.set_cons_succ, i64_w, i32_w]
                                            rfl
                                          refine pure_ (i := 3) (N := some 123) (v := ?_) (a' := ?_) #[true, true, true, true, false, false, false, false, false, false, false, false, false, false, false, false, false, false, false, false, false, false, false, false, false, false, false, false, false, false] rfl rfl (any_of HT_.out (by kernel_rfl)) (fun _ _ _ h => h) (Or.inl ⟨by rfl, ?_⟩) ?_ ?_
                                          rotate_left
                                          · intro w'
                                            go_simp
                                            with_reducible rfl
                                          rotate_left
                                          · simp only [Act.put, List.setIfInBounds_toArray, List.set_cons_zero, List.set_cons_succ, i64_w, i32_w]
                                            rfl
                                          refine pure_ (i := 4) (N := some 124) (v := ?_) (a' := ?_) #[true, true, true, true, true, false, false, false, false, false, false, false, false, false, false, false, false, false, false, false, false, false, false, false, false, false, false, false, false, false] rfl rfl (any_of HT_.out (by kernel_rfl)) (fun _ _ _ h => h) (Or.inl ⟨by rfl, ?_⟩) ?_ ?_
                                          rotate_left
                                          · intro w'
                                            go_simp
                                            with_reducible rfl
                                          rotate_left
                                          · simp only [Act.put, List.setIfInBounds_toArray, List.set_cons_zero, List.set_cons_succ, i64_w, i32_w]
                                            rfl
                                          refine pure_ (i := 5) (N := some 125) (v := ?_) (a' := ?_) #[true, true, true, true, true, true, false, false, false, false, false, false, false, false, false, false, false, false, false, false, false, false, false, false, false, false, false, false, false, false] rfl rfl (any_of HT_.out (by kernel_rfl)) (fun _ _ _ h => h) (Or.inl ⟨by rfl, ?_⟩) ?_ ?_
                                          rotate_left
                                          · intro w'
                                            go_simp
                                            with_reducible rfl
                                          rotate_left
                                          · simp only [Act.put, List.setIfInBounds_toArray, List.set_cons_zero, List.set_cons_succ, i64_w, i32_w]
                                            rfl
                                          refine pure_ (i := 6) (N := some 126) (v := ?_) (a' := ?_) #[true, true, true, true, true, true, true, false, false, false, false, false, false, false, false, false, false, false, false, false, false, false, false, false, false, false, false, false, false, false] rfl rfl (any_of HT_.out (by kernel_rfl)) (fun _ _ _ h => h) (Or.inl ⟨by rfl, ?_⟩) ?_ ?_
                                          rotate_left
                                          · intro w'
                                            go_simp
                                            with_reducible rfl
                                          rotate_left
                                          · simp only [Act.put, List.setIfInBounds_toArray, List.set_cons_zero, List.set_cons_succ, i64_w, i32_w]
                                            rfl
                                          refine pure_ (i := 7) (N := some 127) (v := ?_) (a' := ?_) #[true, true, true, true, true, true, true, true, false, false, false, false, false, false, false, false, false, false, false, false, false, false, false, false, false, false, false, false, false, false] rfl rfl (any_of HT_.out (by kernel_rfl)) (fun _ _ _ h => h) (Or.inl ⟨by rfl, ?_⟩) ?_ ?_
                                          rotate_left
                                          · intro w'
                                            go_simp
                                            with_reducible rfl
                                          rotate_left
                                          · simp only [Act.put, List.setIfInBounds_toArray, List.set_cons_zero, List.set_cons_succ, i64_w, i32_w]
                                            rfl
                                          refine pure_ (i := 9) (N := some 129) (v := ?_) (a' := ?_) #[true, true, true, true, true, true, true, true, false, true, false, false, false, false, false, false, false, false, false, false, false, false, false, false, false, false, false, false, false, false] rfl rfl (any_of HT_.out (by kernel_rfl)) (fun _ _ _ h => h) (Or.inl ⟨by rfl, ?_⟩) ?_ ?_
                                          rotate_left
                                          · intro w'
                                            go_simp
                                            with_reducible rfl
                                          rotate_left
                                          · simp only [Act.put, List.setIfInBounds_toArray, List.set_cons_zero, List.set_cons_succ, i64_w, i32_w]
                                            rfl
                                          refine take_ (i := 8) (N := some 128) (v := ?_) (a' := ?_) #[true, true, true, true, true, true, true, true, true, true, false, false, false, false, false, false, false, false, false, false, false, false, false, false, false, false, false, false, false, false] rfl rfl (take_ofW HT_.out HW_.out (by kernel_rfl)) (fun _ _ _ h => h) (Or.inl ⟨by rfl, ?_⟩) hHeld ?_ ?_
                                          rotate_left
                                          · intro w' s0
                                            go_simp
                                            with_reducible rfl
                                          rotate_left
                                          · simp only [Act.put, List.setIfInBounds_toArray, List.set_cons_zero, List.set_cons_succ, i64_w, i32_w]
                                            rfl
                                          refine one_ (i := 10) (N := some 130) #[true, true, true, true, true, true, true, true, true, true, true, false, false, false, false, false, false, false, false, false, false, false, false, false, false, false, false, false, false, false] rfl rfl (one_of HT_.out (by kernel_rfl)) (by decide) (fun K hK => ?_)
                                          refine goes_ Try.func18 (by kernel_rfl) rfl #[.int .u64 t108, .int .i64 (l0.length : Int), .int .i64 (ji66), .string (rdOf ByteArray.empty l0 (ji66)), .slice (some ⟨go64, 0, none⟩) y141.length co74] (by rfl) rfl rfl (by (try simp only [List.map_toArray, List.map_cons, List.map_nil]); first | done | (rw [show y141.length = y137.length from (Kd.R_reads' HO139.out).1.symm] <;> rfl) | (simp only [hji66]; rfl) | rfl | (simp only [List.length_drop, List.length_take]; rfl)) ?_
                                          with_reducible refine (merkle_Verify.calls t108 (l0.length : Int) (ji66) (rdOf ByteArray.empty l0 (ji66)) _ _ y141 true _ ?side1 ?side2 A69.out).mono ?_
                                          (case side1 => repeat (first | exact (Kd.R_reads' HO139.out).2.2 | (with_reducible refine Kd.C_alloc ?_ _) | (with_reducible refine Kd.C_drewN ?_ _) | (with_reducible refine Kd.C_drew ?_)))
                                          (case side2 => rw [show y141.length = y137.length from (Kd.R_reads' HO139.out).1.symm]; exact (Kd.R_reads' HO139.out).2.1)
                                          rintro e w78 ⟨rfl, hb⟩
                                          refine ⟨_, rfl, ?_⟩
                                          have n0_ := Aside0.mk (Kd.R_below (by (with_reducible repeat (first | apply Kd.R_alloc | apply Kd.R_drewN | apply Kd.R_drew)); exact HO_14.out) hb)
                                          have n1_ := Aside0.mk (Kd.R_below (by (with_reducible repeat (first | apply Kd.R_alloc | apply Kd.R_drewN | apply Kd.R_drew)); exact HO139.out) hb)
                                          have n2_ := Aside0.mk (blk_below (g := gb105) (o := .cells #[.int .u64 a3_0, .bool a3_1] 42 (0, 0)) (by (with_reducible repeat (first | refine blk_drewN ?_ _ | refine blk_drew ?_ | refine blk_alloc ?_ _)); exact BK105.out) hb)
                                          have n3_ := Aside0.mk (below_step (by repeat (first | (with_reducible first | exact HB.out | apply below_alloc | apply pw_below_drewN | apply below_drew1 | refine below_set ?_ GE105.out) | exact HB.out)) hb)
                                          clear HO_14
                                          clear HO139
                                          clear BK105
                                          clear HB
                                          have HO_14 := n0_
                                          have HO139 := n1_
                                          have BK105 := n2_
                                          have HB := n3_
                                          clear n0_ n1_ n2_ n3_
                                          (try clear hb)
                                          (try clear hb2)
                                          (try clear hk)
                                          (try clear hi)
                                          refine hK.out _ _ (((HB.out.cell (World.block_lt_of_cell? w _ hw142_0)).trans hw142_0)) (fun hHeld => ?_)
                                          clear hK K
                                          refine norm_ (a' := ?_) ?_ ?_
                                          rotate_left
                                          · show Act.put _ (some 130) _ = _
                                            simp only [Act.put, List.setIfInBounds_toArray, List.set_cons_zero, List.set_cons_succ, i64_w, i32_w]
                                            rfl
                                          refine pure_ (i := 11) (N := some 131) (v := ?_) (a' := ?_) #[true, true, true, true, true, true, true, true, true, true, true, true, false, false, false, false, false, false, false, false, false, false, false, false, false, false, false, false, false, false] rfl rfl (any_of HT_.out (by kernel_rfl)) (fun _ _ _ h => h) (Or.inl ⟨by rfl, ?_⟩) ?_ ?_
                                          rotate_left
                                          · intro w'
                                            go_simp
                                            with_reducible rfl
                                          rotate_left
                                          · simp only [Act.put, List.setIfInBounds_toArray, List.set_cons_zero, List.set_cons_succ, i64_w, i32_w]
                                            rfl
                                          refine pure_ (i := 12) (N := some 132) (v := ?_) (a' := ?_) #[true, true, true, true, true, true, true, true, true, true, true, true, true, false, false, false, false, false, false, false, false, false, false, false, false, false, false, false, false, false] rfl rfl (any_of HT_.out (by kernel_rfl)) (fun _ _ _ h => h) (Or.inl ⟨by rfl, ?_⟩) ?_ ?_
                                          rotate_left
                                          · intro w'
                                            go_simp
                                            with_reducible rfl
                                          rotate_left
                                          · simp only [Act.put, List.setIfInBounds_toArray, List.set_cons_zero, List.set_cons_succ, i64_w, i32_w]
                                            rfl
                                          refine pure_ (i := 13) (N := some 133) (v := ?_) (a' := ?_) #[true, true, true, true, true, true, true, true, true, true, true, true, true, true, false, false, false, false, false, false, false, false, false, false, false, false, false, false, false, false] rfl rfl (any_of HT_.out (by kernel_rfl)) (fun _ _ _ h => h) (Or.inl ⟨by rfl, ?_⟩) ?_ ?_
                                          rotate_left
                                          · intro w'
                                            go_simp
                                            with_reducible rfl
                                          rotate_left
                                          · simp only [Act.put, List.setIfInBounds_toArray, List.set_cons_zero, List.set_cons_succ, i64_w, i32_w]
                                            rfl
                                          refine pure_ (i := 14) (N := some 134) (v := undef) (a' := ?_) #[true, true, true, true, true, true, true, true, true, true, true, true, true, true, true, false, false, false, false, false, false, false, false, false, false, false, false, false, false, false] rfl rfl (any_of HT_.out (by kernel_rfl)) (fun _ _ _ h => h) (Or.inr ⟨by rfl, rfl⟩) ?_ ?_
                                          rotate_left
                                          · simp only [Act.put, List.setIfInBounds_toArray, List.set_cons_zero, List.set_cons_succ, i64_w, i32_w]
                                            rfl
                                          refine pure_ (i := 15) (N := some 135) (v := undef) (a' := ?_) #[true, true, true, true, true, true, true, true, true, true, true, true, true, true, true, true, false, false, false, false, false, false, false, false, false, false, false, false, false, false] rfl rfl (any_of HT_.out (by kernel_rfl)) (fun _ _ _ h => h) (Or.inr ⟨by rfl, rfl⟩) ?_ ?_
                                          rotate_left
                                          · simp only [Act.put, List.setIfInBounds_toArray, List.set_cons_zero, List.set_cons_succ, i64_w, i32_w]
                                            rfl
                                          refine pure_ (i := 16) (N := some 136) (v := undef) (a' := ?_) #[true, true, true, true, true, true, true, true, true, true, true, true, true, true, true, true, true, false, false, false, false, false, false, false, false, false, false, false, false, false] rfl rfl (any_of HT_.out (by kernel_rfl)) (fun _ _ _ h => h) (Or.inr ⟨by rfl, rfl⟩) ?_ ?_
                                          rotate_left
                                          · simp only [Act.put, List.setIfInBounds_toArray, List.set_cons_zero, List.set_cons_succ, i64_w, i32_w]
                                            rfl
                                          refine pure_ (i := 17) (N := some 137) (v := undef) (a' := ?_) #[true, true, true, true, true, true, true, true, true, true, true, true, true, true, true, true, true, true, false, false, false, false, false, false, false, false, false, false, false, false] rfl rfl (any_of HT_.out (by kernel_rfl)) (fun _ _ _ h => h) (Or.inr ⟨by rfl, rfl⟩) ?_ ?_
                                          rotate_left
                                          · simp only [Act.put, List.setIfInBounds_toArray, List.set_cons_zero, List.set_cons_succ, i64_w, i32_w]
                                            rfl
                                          refine pure_ (i := 18) (N := some 138) (v := undef) (a' := ?_) #[true, true, true, true, true, true, true, true, true, true, true, true, true, true, true, true, true, true, true, false, false, false, false, false, false, false, false, false, false, false] rfl rfl (any_of HT_.out (by kernel_rfl)) (fun _ _ _ h => h) (Or.inr ⟨by rfl, rfl⟩) ?_ ?_
                                          rotate_left
                                          · simp only [Act.put, List.setIfInBounds_toArray, List.set_cons_zero, List.set_cons_succ, i64_w, i32_w]
                                            rfl
                                          refine pure_ (i := 19) (N := some 139) (v := undef) (a' := ?_) #[true, true, true, true, true, true, true, true, true, true, true, true, true, true, true, true, true, true, true, true, false, false, false, false, false, false, false, false, false, false] rfl rfl (any_of HT_.out (by kernel_rfl)) (fun _ _ _ h => h) (Or.inr ⟨by rfl, rfl⟩) ?_ ?_
                                          rotate_left
                                          · simp only [Act.put, List.setIfInBounds_toArray, List.set_cons_zero, List.set_cons_succ, i64_w, i32_w]
                                            rfl
                                          refine pure_ (i := 20) (N := some 140) (v := undef) (a' := ?_) #[true, true, true, true, true, true, true, true, true, true, true, true, true, true, true, true, true, true, true, true, true, false, false, false, false, false, false, false, false, false] rfl rfl (any_of HT_.out (by kernel_rfl)) (fun _ _ _ h => h) (Or.inr ⟨by rfl, rfl⟩) ?_ ?_
                                          rotate_left
                                          · simp only [Act.put, List.setIfInBounds_toArray, List.set_cons_zero, List.set_cons_succ, i64_w, i32_w]
                                            rfl
                                          refine pure_ (i := 21) (N := some 141) (v := undef) (a' := ?_) #[true, true, true, true, true, true, true, true, true, true, true, true, true, true, true, true, true, true, true, true, true, true, false, false, false, false, false, false, false, false] rfl rfl (any_of HT_.out (by kernel_rfl)) (fun _ _ _ h => h) (Or.inr ⟨by rfl, rfl⟩) ?_ ?_
                                          rotate_left
                                          · simp only [Act.put, List.setIfInBounds_toArray, List.set_cons_zero, List.set_cons_succ, i64_w, i32_w]
                                            rfl
                                          refine pure_ (i := 22) (N := some 142) (v := undef) (a' := ?_) #[true, true, true, true, true, true, true, true, true, true, true, true, true, true, true, true, true, true, true, true, true, true, true, false, false, false, false, false, false, false] rfl rfl (any_of HT_.out (by kernel_rfl)) (fun _ _ _ h => h) (Or.inr ⟨by rfl, rfl⟩) ?_ ?_
                                          rotate_left
                                          · simp only [Act.put, List.setIfInBounds_toArray, List.set_cons_zero, List.set_cons_succ, i64_w, i32_w]
                                            rfl
                                          refine pure_ (i := 23) (N := some 143) (v := undef) (a' := ?_) #[true, true, true, true, true, true, true, true, true, true, true, true, true, true, true, true, true, true, true, true, true, true, true, true, false, false, false, false, false, false] rfl rfl (any_of HT_.out (by kernel_rfl)) (fun _ _ _ h => h) (Or.inr ⟨by rfl, rfl⟩) ?_ ?_
                                          rotate_left
                                          · simp only [Act.put, List.setIfInBounds_toArray, List.set_cons_zero, List.set_cons_succ, i64_w, i32_w]
                                            rfl
                                          refine pure_ (i := 24) (N := some 144) (v := undef) (a' := ?_) #[true, true, true, true, true, true, true, true, true, true, true, true, true, true, true, true, true, true, true, true, true, true, true, true, true, false, false, false, false, false] rfl rfl (any_of HT_.out (by kernel_rfl)) (fun _ _ _ h => h) (Or.inr ⟨by rfl, rfl⟩) ?_ ?_
                                          rotate_left
                                          · simp only [Act.put, List.setIfInBounds_toArray, List.set_cons_zero, List.set_cons_succ, i64_w, i32_w]
                                            rfl
                                          refine pure_ (i := 25) (N := some 145) (v := undef) (a' := ?_) #[true, true, true, true, true, true, true, true, true, true, true, true, true, true, true, true, true, true, true, true, true, true, true, true, true, true, false, false, false, false] rfl rfl (any_of HT_.out (by kernel_rfl)) (fun _ _ _ h => h) (Or.inr ⟨by rfl, rfl⟩) ?_ ?_
                                          rotate_left
                                          · simp only [Act.put, List.setIfInBounds_toArray, List.set_cons_zero, List.set_cons_succ, i64_w, i32_w]
                                            rfl
                                          refine pure_ (i := 26) (N := some 146) (v := undef) (a' := ?_) #[true, true, true, true, true, true, true, true, true, true, true, true, true, true, true, true, true, true, true, true, true, true, true, true, true, true, true, false, false, false] rfl rfl (any_of HT_.out (by kernel_rfl)) (fun _ _ _ h => h) (Or.inr ⟨by rfl, rfl⟩) ?_ ?_
                                          rotate_left
                                          · simp only [Act.put, List.setIfInBounds_toArray, List.set_cons_zero, List.set_cons_succ, i64_w, i32_w]
                                            rfl
                                          refine pure_ (i := 27) (N := some 147) (v := undef) (a' := ?_) #[true, true, true, true, true, true, true, true, true, true, true, true, true, true, true, true, true, true, true, true, true, true, true, true, true, true, true, true, false, false] rfl rfl (any_of HT_.out (by kernel_rfl)) (fun _ _ _ h => h) (Or.inr ⟨by rfl, rfl⟩) ?_ ?_
                                          rotate_left
                                          · simp only [Act.put, List.setIfInBounds_toArray, List.set_cons_zero, List.set_cons_succ, i64_w, i32_w]
                                            rfl
                                          refine pure_ (i := 28) (N := some 148) (v := ?_) (a' := ?_) #[true, true, true, true, true, true, true, true, true, true, true, true, true, true, true, true, true, true, true, true, true, true, true, true, true, true, true, true, true, false] rfl rfl (any_of HT_.out (by kernel_rfl)) (fun _ _ _ h => h) (Or.inl ⟨by rfl, ?_⟩) ?_ ?_
                                          rotate_left
                                          · intro w'
                                            go_simp
                                            with_reducible rfl
                                          rotate_left
                                          · simp only [Act.put, List.setIfInBounds_toArray, List.set_cons_zero, List.set_cons_succ, i64_w, i32_w]
                                            rfl
                                          refine pure_ (i := 29) (N := some 8) (v := ?_) (a' := ?_) #[true, true, true, true, true, true, true, true, true, true, true, true, true, true, true, true, true, true, true, true, true, true, true, true, true, true, true, true, true, true] rfl rfl (any_of HT_.out (by kernel_rfl)) (fun _ _ _ h => h) (Or.inl ⟨by rfl, ?_⟩) ?_ ?_
                                          rotate_left
                                          · intro w'
                                            go_simp
                                            with_reducible rfl
                                          rotate_left
                                          · simp only [Act.put, List.setIfInBounds_toArray, List.set_cons_zero, List.set_cons_succ, i64_w, i32_w]
                                            rfl
                                          refine done_ (done_of HT_.out (by kernel_rfl)) ?_
                                          try go_wp2
                                          go_ret
                                          exact ⟨by first | rfl | (simp [errW_none, errW_some] <;> rfl) | (simp only [← hji61, ← hji66]; first | rfl | (simp [errW_none, errW_some] <;> rfl)) | (simp [*, errW_none, errW_some] <;> rfl), by repeat (first | (with_reducible first | exact HB.out | apply below_alloc | apply pw_below_drewN | apply below_drew1 | refine below_set ?_ GE105.out) | exact HB.out)⟩
                                        · replace c70 := Bool.eq_false_iff.mpr c70
                                          subst c70
                                          have H1 : (if 0 ≤ (wrap64 ((t110.length : Int) - 1)) then (if (wrap64 ((t110.length : Int) - 1)) ≤ (t110.length : Int) then ((merkle_Verify.f t108 (l0.length : Int) (ji66) (rdOf ByteArray.empty l0 (ji66)) (t110.take ((wrap64 ((t110.length : Int) - 1)) : Int).toNat)).bind fun t149 => (some (!t149))) else (none)) else (none)) = some r := by rw [if_neg (show ¬ (false = true) by decide)] at H; exact H
                                          clear H
                                          have H := H1
                                          clear H1
                                          obtain ⟨ji79, hji79⟩ : ∃ j_ : Int, (wrap64 ((t110.length : Int) - 1)) = j_ := ⟨_, rfl⟩
                                          replace H : (if 0 ≤ (ji79) then (if (ji79) ≤ (t110.length : Int) then ((merkle_Verify.f t108 (l0.length : Int) (ji66) (rdOf ByteArray.empty l0 (ji66)) (t110.take ((ji79) : Int).toNat)).bind fun t149 => (some (!t149))) else (none)) else (none)) = some r := by first | (rw [hji79] at H; exact H) | (simp only [hji79] at H ⊢; exact H)
                                          (try rw [hji79] at A69)
                                          have hji79w : (IntKind.i64.wrap ((t110.length : Int) - 1)) = ji79 := (i64_w _).trans hji79
                                          by_cases c80 : 0 ≤ (ji79)
                                          · rw [if_pos c80] at H
                                            have c80b0 := eq_true c80
                                            have c80b1 : decide (0 ≤ (ji79)) = true := decide_eq_true c80
                                            clear c80
                                            by_cases c81 : (ji79) ≤ (t110.length : Int)
                                            · rw [if_pos c81] at H
                                              have c81b0 := eq_true c81
                                              have c81b1 : decide ((ji79) ≤ (t110.length : Int)) = true := decide_eq_true c81
                                              clear c81
                                              obtain ⟨y145, hy145⟩ : ∃ y_ : List (S42), y_ = (t110.take ((ji79) : Int).toNat) := ⟨_, rfl⟩
                                              replace H : ((merkle_Verify.f t108 (l0.length : Int) (ji66) (rdOf ByteArray.empty l0 (ji66)) y145).bind fun t149 => (some (!t149))) = some r := by first | (rw [hy145]; with_reducible exact H) | (have H2_ := (Option.bind_some _ _).symm.trans H; rw [hy145]; with_reducible exact H2_) | (have H2_ := (Option.bind_some _ _).symm.trans H; with_reducible exact H2_) | with_reducible exact H | (rw [hy145]; exact H) | exact H
                                              have Ny145 := Aside0.mk hy145
                                              clear hy145
                                              replace H := Option.bind_eq_some_iff.mp H
                                              obtain ⟨t149, A820, H⟩ := H
                                              replace H : (some (!t149)) = some r := H
                                              have A82 := Aside0.mk A820
                                              clear A820
                                              obtain rfl := Option.some.inj H
                                              try go_wp2_with (first | ((with_reducible refine gate_dst (N := 102) rfl ?_); (try (refine gate_guard (by rfl) ?_; dsimp only)); refine Kd.R_lit k42 _ 42 ?hg (N := 102) ?hd (xs := ([] : List (S42))) (inner := []) (ok := fun _ => True) (okp := fun _ => True) ?hr ?hp (fun _ hk => hk) trivial (Below.refl _ _) (Nat.le_refl _) (by simp) ?_; (case hd => rfl); (case hg => rfl); (case hr => first | (go_simp; done) | (go_simp; rfl)); (case hp => exact (Reps.none _ _)); intro v135 w83 ho84 hb hg_ hnew_; clear hg_ hnew_; (first | rw [← Ny134.out] at ho84 | (simp only [Int.reduceToNat] at ho84; rw [← Ny134.out] at ho84)); have n0_ := Aside0.mk (Kd.R_elder' (by (with_reducible repeat (first | apply Kd.R_alloc | apply Kd.R_drewN | apply Kd.R_drew)); exact HO_14.out) (Kd.R_base ho84) hb); have n1_ := Aside0.mk (Kd.R_lower (Kd.R_newB (Kd.R_new' ho84 (Kd.R_lt (by (with_reducible repeat (first | apply Kd.R_alloc | apply Kd.R_drewN | apply Kd.R_drew)); exact HO_14.out))) (g := gb105) (o := .cells #[.int .u64 a3_0, .bool a3_1] 42 (0, 0)) (by (with_reducible repeat (first | refine blk_drewN ?_ _ | refine blk_drew ?_ | refine blk_alloc ?_ _)); exact BK105.out)) (below_size (by repeat (first | (with_reducible first | exact HB.out | apply below_alloc | apply pw_below_drewN | apply below_drew1 | refine below_set ?_ GE105.out) | exact HB.out)))); have n2_ := Aside0.mk (blk_below (g := gb105) (o := .cells #[.int .u64 a3_0, .bool a3_1] 42 (0, 0)) (by (with_reducible repeat (first | refine blk_drewN ?_ _ | refine blk_drew ?_ | refine blk_alloc ?_ _)); exact BK105.out) hb); have n3_ := Aside0.mk (below_step (by repeat (first | (with_reducible first | exact HB.out | apply below_alloc | apply pw_below_drewN | apply below_drew1 | refine below_set ?_ GE105.out) | exact HB.out)) hb); clear HO_14; clear BK105; clear HB; have HO_14 := n0_; have HO136 := n1_; have BK105 := n2_; have HB := n3_; clear n0_ n1_ n2_ n3_; clear hb ho84) | ((with_reducible refine gate_builtin (b := .append) (xs := #[.tmp 102, .tmp 103]) rfl ?_); (try (refine gate_guard (by rfl) ?_; dsimp only)); at_builtin; refine Kd.R_append_rows k42 (w0 := w) w.heap.size rfl (.tmp 102) (.tmp 103) 25 42 (.agg #[(.int .u64 0), (.bool false)]) 16 rfl Try.underlying25 info42 rfl (by decide) (by omega) v135 y134 t110 _ _ _ (fun k_ => some k_ ≠ (.slice Ao24 t110.length co24 : Value).ownBlock ∧ k_ ≠ gb105) (fun _ => False) rfl rfl ?aO ?aR (fun _ _ h => h) (fun _ h => h.elim) ?aF ?aB ?aS ?aL ?_; (case aR => repeat (first | exact (Kd.R_reads' HO_14.out).2.2 | (with_reducible refine Kd.C_alloc ?_ _) | (with_reducible refine Kd.C_drewN ?_ _) | (with_reducible refine Kd.C_drew ?_))); (case aB => exact (by repeat (first | (with_reducible first | exact HB.out | apply below_alloc | apply pw_below_drewN | apply below_drew1 | refine below_set ?_ GE105.out) | exact HB.out))); (case aF => exact (fun k_ hk => ⟨Kd.fresh' (Kd.R_lt (by (with_reducible repeat (first | apply Kd.R_alloc | apply Kd.R_drewN | apply Kd.R_drew)); exact HO_14.out)) k_ hk, Kd.freshB (g := gb105) (o := .cells #[.int .u64 a3_0, .bool a3_1] 42 (0, 0)) (by (with_reducible repeat (first | refine blk_drewN ?_ _ | refine blk_drew ?_ | refine blk_alloc ?_ _)); exact BK105.out) k_ hk⟩)); (case aO => exact (by (with_reducible repeat (first | apply Kd.R_alloc | apply Kd.R_drewN | apply Kd.R_drew)); exact Kd.R_mono HO136.out (fun _ hk => ⟨hk.1.2, hk.2⟩))); (case aS => exact (below_size (by repeat (first | (with_reducible first | exact HB.out | apply below_alloc | apply pw_below_drewN | apply below_drew1 | refine below_set ?_ GE105.out) | exact HB.out)))); (case aL => have := LMc60.out; omega); intro v138 w85 ho hb hg hat; rw [← Ny137.out] at ho; have n0_ := Aside0.mk (Kd.R_after (ok := (fun k_ => k_ ≠ gb105)) (by (with_reducible repeat (first | apply Kd.R_alloc | apply Kd.R_drewN | apply Kd.R_drew)); exact HO_14.out) hg hat); have n1_ := Aside0.mk (blk_grown (g := gb105) (o := .cells #[.int .u64 a3_0, .bool a3_1] 42 (0, 0)) (by (with_reducible repeat (first | refine blk_drewN ?_ _ | refine blk_drew ?_ | refine blk_alloc ?_ _)); exact BK105.out) hg (Kd.R_away HO136.out (fun _ hk => hk.2))); have n2_ := Aside0.mk (hb); have n3_ := Aside0.mk (ho); clear HO_14; clear BK105; clear HB; clear HO136; have HO_14 := n0_; have BK105 := n1_; have HB := n2_; have HO139 := n3_; clear n0_ n1_ n2_ n3_; clear ho hb hg hat; obtain ⟨Ao86, co86, eo86⟩ := Kd.R_slice HO139.out; subst eo86; have p140 : 0 ≤ ((ji61) : Int) := of_decide_eq_true (by first | (with_reducible assumption) | assumption); have q140 : (ji61) < (y137.length : Int) := of_decide_eq_true (by first | (with_reducible assumption) | assumption); obtain ⟨ad140, e140, hx140_0, hx140_1⟩ := at_T42 (Kd.R_reads' HO139.out).2.2 (ji61) p140 q140; cases e140; replace p140 := eq_true p140; replace q140 := eq_true q140; have p64 : 0 ≤ ((ji61) : Int) := of_decide_eq_true (by first | (with_reducible assumption) | assumption); have q64 : ((ji61) : Int) < ((y137.length : Int) : Int) := of_decide_eq_true (by first | (with_reducible assumption) | assumption); obtain ⟨go64, co64, eo64, gb64, gl64, cl64, HG64⟩ := Kd.R_form HO139.out (by omega); (first | cases eo64 | (injection eo64 with ea_ en_ ec_; (first | subst ea_ | (injection ea_ with ea_; subst ea_)); subst ec_; clear en_)); have GB64 := Aside0.mk gb64; have GG64 := Aside0.mk HG64; clear gb64 gl64 HG64; (first | simp only [add_plain] at hx140_0 | skip); (first | simp only [add_plain] at hx140_1 | skip); obtain ⟨ce64, hcl64, hM64, hcc64, hfr64⟩ := Kd.R_elem HO139.out z42 ((ji61) : Int) p64 q64; obtain rfl := k42_openM hM64; have hx64_0 : w85.cell? ⟨go64, ((ji61) : Int).toNat * 2, none⟩ = some (.int .u64 ((rd_T42 y137 (ji61)).f0)) := hcc64 0 _ rfl; have hx64_1 : w85.cell? ⟨go64, ((ji61) : Int).toNat * 2 + 1, none⟩ = some (.bool ((rd_T42 y137 (ji61)).f1)) := hcc64 1 _ rfl; have hf64_0 : w85.frozen? ⟨go64, ((ji61) : Int).toNat * 2, none⟩ = false := hfr64 0; have hf64_1 : w85.frozen? ⟨go64, ((ji61) : Int).toNat * 2 + 1, none⟩ = false := hfr64 1; clear hcl64 hcc64 hfr64 hM64; replace p64 := eq_true p64; replace q64 := eq_true q64; have HX87 := Aside0.mk (show Kd.R k42 42 w85 w.heap.size (fun k_ => some k_ ≠ (.slice Ao24 t110.length co24 : Value).ownBlock ∧ k_ ≠ gb105) (.slice (some ⟨go64, 0, none⟩) y137.length co86) y137 from (by (with_reducible repeat (first | apply Kd.R_alloc | apply Kd.R_drewN | apply Kd.R_drew)); exact HO139.out)); obtain ⟨ce87, hcl87, hM87, hcc87, hfr87⟩ := Kd.R_elem HX87.out z42 ((ji61) : Int) (of_decide_eq_true (by first | (with_reducible assumption) | assumption)) (by have h_ : ((ji61) : Int) < ((y137.length : Int) : Int) := of_decide_eq_true (by first | (with_reducible assumption) | assumption); first | exact h_ | (have e_ := (Kd.R_reads' HO139.out).1; omega) | simpa using h_); obtain rfl := k42_openM hM87; have HP87 := Kd.R_seg HX87.out ((ji61) : Int) (of_decide_eq_true (by first | (with_reducible assumption) | assumption)) (by have h_ : ((ji61) : Int) < ((y137.length : Int) : Int) := of_decide_eq_true (by first | (with_reducible assumption) | assumption); first | exact h_ | (have e_ := (Kd.R_reads' HO139.out).1; omega) | simpa using h_) (seg := [.bool (!((rd_T42 y137 (ji61)).f1))]) (j := 1) hcl87 hcc87 (show 2 ≤ 2 from by decide) (x' := (⟨(rd_T42 y137 (ji61)).f0, !((rd_T42 y137 (ji61)).f1)⟩ : S42)) (k42_mkM _ _ _ (⟨(rd_T42 y137 (ji61)).f0, !((rd_T42 y137 (ji61)).f1)⟩ : S42) ) (fun _ hk => hk); have hx87_1 := hcc87 1 _ rfl; (try simp only [show (k42).sz = 2 from rfl, Nat.mul_one, Nat.add_zero] at hx87_1); have hf87_1 := hfr87 1; (try simp only [show (k42).sz = 2 from rfl, Nat.mul_one, Nat.add_zero] at hf87_1); clear hcl87 hcc87 hfr87 hM87) | ((with_reducible refine gate_store (t := 4) (p := 119) rfl ?_); refine store_event (t := 4) (p := 119) (v := ?vo_w88) (w1 := (w85.setCell ⟨go64, ((ji61) : Int).toNat * 2 + 1, none⟩ (.bool (!((rd_T42 y137 (ji61)).f1))))) ?hg ?ho ?hn ?hr ?_; (case ho => rfl); (case hg => rfl); (case hn => rfl); (case hr => first | (go_simp; done) | (go_simp; rfl)); intro w88 hw; have hg : w85.grownBy w88 (some go64) := (by rw [hw]; exact HP87.2); have hp_ : Kd.R k42 42 w88 w.heap.size (fun k_ => some k_ ≠ (.slice Ao24 t110.length co24 : Value).ownBlock ∧ k_ ≠ gb105) (.slice (some ⟨go64, 0, none⟩) y137.length co86) y141 := (by rw [hw, Ny141.out]; exact HP87.1); clear HP87; have n0_ := Aside0.mk (Kd.R_after (v := (.slice (some ⟨go64, 0, none⟩) y137.length co86)) (v1 := (.slice (some ⟨go64, 0, none⟩) y137.length co86)) (ok := (fun k_ => k_ ≠ gb105)) (by (with_reducible repeat (first | apply Kd.R_alloc | apply Kd.R_drewN | apply Kd.R_drew)); exact HO_14.out) hg (.inl rfl)); have n1_ := Aside0.mk (blk_grown (g := gb105) (o := .cells #[.int .u64 a3_0, .bool a3_1] 42 (0, 0)) (by (with_reducible repeat (first | refine blk_drewN ?_ _ | refine blk_drew ?_ | refine blk_alloc ?_ _)); exact BK105.out) hg (Kd.R_away HO139.out (fun _ hk => hk.2))); have n2_ := Aside0.mk (hp_); have n3_ := Aside0.mk ((by rw [hw]; exact below_set (HB.out) GB64.out : Below w.heap.size w w88)); clear HO_14; clear BK105; clear HO139; clear HB; have HO_14 := n0_; have BK105 := n1_; have HO139 := n2_; have HB := n3_; clear n0_ n1_ n2_ n3_; clear hg hw hp_))
                                              have n0_ := Aside0.mk (Kd.R_drew HO_14.out)
                                              have n1_ := Aside0.mk (Kd.R_drew HO139.out)
                                              have n2_ := Aside0.mk (blk_drew BK105.out)
                                              have n3_ := Aside0.mk (below_drew1 HB.out)
                                              clear HO_14
                                              clear HO139
                                              clear BK105
                                              clear HB
                                              have HO_14 := n0_
                                              have HO139 := n1_
                                              have BK105 := n2_
                                              have HB := n3_
                                              clear n0_ n1_ n2_ n3_
                                              have p142 : 0 ≤ ((ji66) : Int) := of_decide_eq_true (by first | (with_reducible assumption) | assumption)
                                              have q142 : (ji66) < (l0.length : Int) := of_decide_eq_true (by first | (with_reducible assumption) | assumption)
                                              obtain ⟨ad142, e142, hx142_0⟩ := Kd.at_string HR0.out (ji66) p142 q142
                                              have hw142_0 := hx142_0
                                              cases e142
                                              replace hx142_0 := (HB.out.cell (World.block_lt_of_cell? w _ hx142_0)).trans hx142_0
                                              replace p142 := eq_true p142
                                              replace q142 := eq_true q142
                                              have p144 : 0 ≤ ((ji66) : Int) := of_decide_eq_true (by first | (with_reducible assumption) | assumption)
                                              have q144 : (ji66) < (l0.length : Int) := of_decide_eq_true (by first | (with_reducible assumption) | assumption)
                                              obtain ⟨ad144, e144, hx144_0⟩ := Kd.at_string HR0.out (ji66) p144 q144
                                              have hw144_0 := hx144_0
                                              obtain rfl : ad142 = ad144 := (by injection e144)
                                              replace hx144_0 := (HB.out.cell (World.block_lt_of_cell? w _ hx144_0)).trans hx144_0
                                              replace p144 := eq_true p144
                                              replace q144 := eq_true q144
                                              refine start_ (n := 30) (S := fun w' => w'.cell? (ad142.add ((ji66)).toNat) = some (.string (rdOf ByteArray.empty l0 (ji66))) ∧ w'.cell? (ad142.add ((ji66)).toNat) = some (.string (rdOf ByteArray.empty l0 (ji66)))) (ds := []) #[false, false, false, false, false, false, false, false, false, false, false, false, false, false, false, false, false, false, false, false, false, false, false, false, false, false, false, false, false, false] (by kernel_rfl) rfl rfl ⟨((HB.out.cell (World.block_lt_of_cell? w _ hw142_0)).trans hw142_0), ((HB.out.cell (World.block_lt_of_cell? w _ hw144_0)).trans hw144_0)⟩ (fun hHeld => ?_); refine with_tabW wageofficelaw24_MerkleForms.tab18 wageofficelaw24_MerkleForms.bits18 (fun HT_ HW_ => ?_)
                                              generalize w88.drew = w89 at HO_14 HO139 BK105 HB hx142_0 hx144_0 hHeld ⊢
                                              refine pure_ (i := 0) (N := some 120) (v := ?_) (a' := ?_) #[true, false, false, false, false, false, false, false, false, false, false, false, false, false, false, false, false, false, false, false, false, false, false, false, false, false, false, false, false, false] rfl rfl (any_of HT_.out (by kernel_rfl)) (fun _ _ _ h => h) (Or.inl ⟨by rfl, ?_⟩) ?_ ?_
                                              rotate_left
                                              · intro w'
                                                go_simp
                                                with_reducible rfl
                                              rotate_left
                                              · simp only [Act.put, List.setIfInBounds_toArray, List.set_cons_zero, List.set_cons_succ, i64_w, i32_w]
                                                rfl
                                              refine pure_ (i := 1) (N := some 121) (v := ?_) (a' := ?_) #[true, true, false, false, false, false, false, false, false, false, false, false, false, false, false, false, false, false, false, false, false, false, false, false, false, false, false, false, false, false] rfl rfl (any_of HT_.out (by kernel_rfl)) (fun _ _ _ h => h) (Or.inl ⟨by rfl, ?_⟩) ?_ ?_
                                              rotate_left
                                              · intro w'
                                                go_simp
                                                with_reducible rfl
                                              rotate_left
                                              · simp only [Act.put, List.setIfInBounds_toArray, List.set_cons_zero, List.set_cons_succ, i64_w, i32_w]
                                                rfl
                                              refine pure_ (i := 2) (N := some 122) (v := ?_) (a' := ?_) #[true, true, true, false, false, false, false, false, false, false, false, false, false, false, false, false, false, false, false, false, false, false, false, false, false, false, false, false, false, false] rfl rfl (any_of HT_.out (by kernel_rfl)) (fun _ _ _ h => h) (Or.inl ⟨by rfl, ?_⟩) ?_ ?_
                                              rotate_left
                                              · intro w'
                                                go_simp
                                                with_reducible rfl
                                              rotate_left
                                              · simp only [Act.put, List.setIfInBounds_toArray, List.set_cons_zero, List.set_cons_succ, i64_w, i32_w]
                                                rfl
                                              refine pure_ (i := 3) (N := some 123) (v := ?_) (a' := ?_) #[true, true, true, true, false, false, false, false, false, false, false, false, false, false, false, false, false, false, false, false, false, false, false, false, false, false, false, false, false, false] rfl rfl (any_of HT_.out (by kernel_rfl)) (fun _ _ _ h => h) (Or.inl ⟨by rfl, ?_⟩) ?_ ?_
                                              rotate_left
                                              · intro w'
                                                go_simp
                                                with_reducible rfl
                                              rotate_left
                                              · simp only [Act.put, List.setIfInBounds_toArray, List.set_cons_zero, List.set_cons_succ, i64_w, i32_w]
                                                rfl
                                              refine pure_ (i := 4) (N := some 124) (v := ?_) (a' := ?_) #[true, true, true, true, true, false, false, false, false, false, false, false, false, false, false, false, false, false, false, false, false, false, false, false, false, false, false, false, false, false] rfl rfl (any_of HT_.out (by kernel_rfl)) (fun _ _ _ h => h) (Or.inl ⟨by rfl, ?_⟩) ?_ ?_
                                              rotate_left
                                              · intro w'
                                                go_simp
                                                with_reducible rfl
                                              rotate_left
                                              · simp only [Act.put, List.setIfInBounds_toArray, List.set_cons_zero, List.set_cons_succ, i64_w, i32_w]
                                                rfl
                                              refine pure_ (i := 5) (N := some 125) (v := ?_) (a' := ?_) #[true, true, true, true, true, true, false, false, false, false, false, false, false, false, false, false, false, false, false, false, false, false, false, false, false, false, false, false, false, false] rfl rfl (any_of HT_.out (by kernel_rfl)) (fun _ _ _ h => h) (Or.inl ⟨by rfl, ?_⟩) ?_ ?_
                                              rotate_left
                                              · intro w'
                                                go_simp
                                                with_reducible rfl
                                              rotate_left
                                              · simp only [Act.put, List.setIfInBounds_toArray, List.set_cons_zero, List.set_cons_succ, i64_w, i32_w]
                                                rfl
                                              refine pure_ (i := 6) (N := some 126) (v := ?_) (a' := ?_) #[true, true, true, true, true, true, true, false, false, false, false, false, false, false, false, false, false, false, false, false, false, false, false, false, false, false, false, false, false, false] rfl rfl (any_of HT_.out (by kernel_rfl)) (fun _ _ _ h => h) (Or.inl ⟨by rfl, ?_⟩) ?_ ?_
                                              rotate_left
                                              · intro w'
                                                go_simp
                                                with_reducible rfl
                                              rotate_left
                                              · simp only [Act.put, List.setIfInBounds_toArray, List.set_cons_zero, List.set_cons_succ, i64_w, i32_w]
                                                rfl
                                              refine pure_ (i := 7) (N := some 127) (v := ?_) (a' := ?_) #[true, true, true, true, true, true, true, true, false, false, false, false, false, false, false, false, false, false, false, false, false, false, false, false, false, false, false, false, false, false] rfl rfl (any_of HT_.out (by kernel_rfl)) (fun _ _ _ h => h) (Or.inl ⟨by rfl, ?_⟩) ?_ ?_
                                              rotate_left
                                              · intro w'
                                                go_simp
                                                with_reducible rfl
                                              rotate_left
                                              · simp only [Act.put, List.setIfInBounds_toArray, List.set_cons_zero, List.set_cons_succ, i64_w, i32_w]
                                                rfl
                                              refine pure_ (i := 9) (N := some 129) (v := ?_) (a' := ?_) #[true, true, true, true, true, true, true, true, false, true, false, false, false, false, false, false, false, false, false, false, false, false, false, false, false, false, false, false, false, false] rfl rfl (any_of HT_.out (by kernel_rfl)) (fun _ _ _ h => h) (Or.inl ⟨by rfl, ?_⟩) ?_ ?_
                                              rotate_left
                                              · intro w'
                                                go_simp
                                                with_reducible rfl
                                              rotate_left
                                              · simp only [Act.put, List.setIfInBounds_toArray, List.set_cons_zero, List.set_cons_succ, i64_w, i32_w]
                                                rfl
                                              refine take_ (i := 8) (N := some 128) (v := ?_) (a' := ?_) #[true, true, true, true, true, true, true, true, true, true, false, false, false, false, false, false, false, false, false, false, false, false, false, false, false, false, false, false, false, false] rfl rfl (take_ofW HT_.out HW_.out (by kernel_rfl)) (fun _ _ _ h => h) (Or.inl ⟨by rfl, ?_⟩) hHeld ?_ ?_
                                              rotate_left
                                              · rintro w' ⟨s0, s1⟩
                                                go_simp
                                                with_reducible rfl
                                              rotate_left
                                              · simp only [Act.put, List.setIfInBounds_toArray, List.set_cons_zero, List.set_cons_succ, i64_w, i32_w]
                                                rfl
                                              refine one_ (i := 10) (N := some 130) #[true, true, true, true, true, true, true, true, true, true, true, false, false, false, false, false, false, false, false, false, false, false, false, false, false, false, false, false, false, false] rfl rfl (one_of HT_.out (by kernel_rfl)) (by decide) (fun K hK => ?_)
                                              refine goes_ Try.func18 (by kernel_rfl) rfl #[.int .u64 t108, .int .i64 (l0.length : Int), .int .i64 (ji66), .string (rdOf ByteArray.empty l0 (ji66)), .slice (some ⟨go64, 0, none⟩) y141.length co86] (by rfl) rfl rfl (by (try simp only [List.map_toArray, List.map_cons, List.map_nil]); first | done | (rw [show y141.length = y137.length from (Kd.R_reads' HO139.out).1.symm] <;> rfl) | (simp only [hji66]; rfl) | rfl | (simp only [List.length_drop, List.length_take]; rfl)) ?_
                                              with_reducible refine (merkle_Verify.calls t108 (l0.length : Int) (ji66) (rdOf ByteArray.empty l0 (ji66)) _ _ y141 false _ ?side1 ?side2 A69.out).mono ?_
                                              (case side1 => repeat (first | exact (Kd.R_reads' HO139.out).2.2 | (with_reducible refine Kd.C_alloc ?_ _) | (with_reducible refine Kd.C_drewN ?_ _) | (with_reducible refine Kd.C_drew ?_)))
                                              (case side2 => rw [show y141.length = y137.length from (Kd.R_reads' HO139.out).1.symm]; exact (Kd.R_reads' HO139.out).2.1)
                                              rintro e w90 ⟨rfl, hb⟩
                                              refine ⟨_, rfl, ?_⟩
                                              have n0_ := Aside0.mk (Kd.R_below (by (with_reducible repeat (first | apply Kd.R_alloc | apply Kd.R_drewN | apply Kd.R_drew)); exact HO_14.out) hb)
                                              have n1_ := Aside0.mk (Kd.R_below (by (with_reducible repeat (first | apply Kd.R_alloc | apply Kd.R_drewN | apply Kd.R_drew)); exact HO139.out) hb)
                                              have n2_ := Aside0.mk (blk_below (g := gb105) (o := .cells #[.int .u64 a3_0, .bool a3_1] 42 (0, 0)) (by (with_reducible repeat (first | refine blk_drewN ?_ _ | refine blk_drew ?_ | refine blk_alloc ?_ _)); exact BK105.out) hb)
                                              have n3_ := Aside0.mk (below_step (by repeat (first | (with_reducible first | exact HB.out | apply below_alloc | apply pw_below_drewN | apply below_drew1 | refine below_set ?_ GE105.out) | exact HB.out)) hb)
                                              clear HO_14
                                              clear HO139
                                              clear BK105
                                              clear HB
                                              have HO_14 := n0_
                                              have HO139 := n1_
                                              have BK105 := n2_
                                              have HB := n3_
                                              clear n0_ n1_ n2_ n3_
                                              (try clear hb)
                                              (try clear hb2)
                                              (try clear hk)
                                              (try clear hi)
                                              have q91 : ((ji79) : Int) ≤ ((t110.length : Int) : Int) := of_decide_eq_true (by first | (with_reducible assumption) | assumption)
                                              obtain ⟨i091, hi091, _, hsz91, _⟩ := info_parts info42
                                              have hroom91 : t110.length ≤ co24 := (Kd.R_reads' HO_14.out).2.1
                                              have hC91 : Kd.C k42 _ Ao24 t110.length t110 := (Kd.R_reads' HO_14.out).2.2
                                              have hcut91 := cut_to (P := Try.prog) 25 42 .i64 Try.underlying25 hi091 Ao24 t110.length co24 (ji79) (of_decide_eq_true (by first | (with_reducible assumption) | assumption)) q91 hroom91
                                              have hr91 := Kd.C_take (m := ((ji79) : Int).toNat) hC91 (by omega)
                                              have hy91 : y145.length = ((ji79) : Int).toNat := (by rw [Ny145.out, List.length_take]; omega)
                                              rw [← Ny145.out] at hr91
                                              rw [← hy91] at hcut91
                                              have HR148 := Aside0.mk hr91
                                              have HC148 := Aside0.mk (show y145.length ≤ co24 from by omega)
                                              clear hr91 hC91 hroom91 hi091 hsz91
                                              have KY91 := Aside0.mk hy91
                                              clear hy91
                                              have KL91 := Aside0.mk (show ((ji79) : Int).toNat ≤ t110.length from by omega)
                                              replace q91 := eq_true q91
                                              refine hK.out _ _ ⟨((HB.out.cell (World.block_lt_of_cell? w _ hw142_0)).trans hw142_0), ((HB.out.cell (World.block_lt_of_cell? w _ hw144_0)).trans hw144_0)⟩ (fun hHeld => ?_)
                                              clear hK K
                                              refine norm_ (a' := ?_) ?_ ?_
                                              rotate_left
                                              · show Act.put _ (some 130) _ = _
                                                simp only [Act.put, List.setIfInBounds_toArray, List.set_cons_zero, List.set_cons_succ, i64_w, i32_w]
                                                rfl
                                              refine pure_ (i := 11) (N := some 131) (v := ?_) (a' := ?_) #[true, true, true, true, true, true, true, true, true, true, true, true, false, false, false, false, false, false, false, false, false, false, false, false, false, false, false, false, false, false] rfl rfl (any_of HT_.out (by kernel_rfl)) (fun _ _ _ h => h) (Or.inl ⟨by rfl, ?_⟩) ?_ ?_
                                              rotate_left
                                              · intro w'
                                                go_simp
                                                with_reducible rfl
                                              rotate_left
                                              · simp only [Act.put, List.setIfInBounds_toArray, List.set_cons_zero, List.set_cons_succ, i64_w, i32_w]
                                                rfl
                                              refine pure_ (i := 12) (N := some 132) (v := ?_) (a' := ?_) #[true, true, true, true, true, true, true, true, true, true, true, true, true, false, false, false, false, false, false, false, false, false, false, false, false, false, false, false, false, false] rfl rfl (any_of HT_.out (by kernel_rfl)) (fun _ _ _ h => h) (Or.inl ⟨by rfl, ?_⟩) ?_ ?_
                                              rotate_left
                                              · intro w'
                                                go_simp
                                                with_reducible rfl
                                              rotate_left
                                              · simp only [Act.put, List.setIfInBounds_toArray, List.set_cons_zero, List.set_cons_succ, i64_w, i32_w]
                                                rfl
                                              refine pure_ (i := 13) (N := some 133) (v := ?_) (a' := ?_) #[true, true, true, true, true, true, true, true, true, true, true, true, true, true, false, false, false, false, false, false, false, false, false, false, false, false, false, false, false, false] rfl rfl (any_of HT_.out (by kernel_rfl)) (fun _ _ _ h => h) (Or.inl ⟨by rfl, ?_⟩) ?_ ?_
                                              rotate_left
                                              · intro w'
                                                go_simp
                                                with_reducible rfl
                                              rotate_left
                                              · simp only [Act.put, List.setIfInBounds_toArray, List.set_cons_zero, List.set_cons_succ, i64_w, i32_w]
                                                rfl
                                              refine pure_ (i := 14) (N := some 134) (v := ?_) (a' := ?_) #[true, true, true, true, true, true, true, true, true, true, true, true, true, true, true, false, false, false, false, false, false, false, false, false, false, false, false, false, false, false] rfl rfl (any_of HT_.out (by kernel_rfl)) (fun _ _ _ h => h) (Or.inl ⟨by rfl, ?_⟩) ?_ ?_
                                              rotate_left
                                              · intro w'
                                                go_simp
                                                with_reducible rfl
                                              rotate_left
                                              · simp only [Act.put, List.setIfInBounds_toArray, List.set_cons_zero, List.set_cons_succ, i64_w, i32_w]
                                                rfl
                                              refine pure_ (i := 15) (N := some 135) (v := ?_) (a' := ?_) #[true, true, true, true, true, true, true, true, true, true, true, true, true, true, true, true, false, false, false, false, false, false, false, false, false, false, false, false, false, false] rfl rfl (any_of HT_.out (by kernel_rfl)) (fun _ _ _ h => h) (Or.inl ⟨by rfl, ?_⟩) ?_ ?_
                                              rotate_left
                                              · intro w'
                                                go_simp
                                                with_reducible rfl
                                              rotate_left
                                              · simp only [Act.put, List.setIfInBounds_toArray, List.set_cons_zero, List.set_cons_succ, i64_w, i32_w]
                                                rfl
                                              refine pure_ (i := 16) (N := some 136) (v := ?_) (a' := ?_) #[true, true, true, true, true, true, true, true, true, true, true, true, true, true, true, true, true, false, false, false, false, false, false, false, false, false, false, false, false, false] rfl rfl (any_of HT_.out (by kernel_rfl)) (fun _ _ _ h => h) (Or.inl ⟨by rfl, ?_⟩) ?_ ?_
                                              rotate_left
                                              · intro w'
                                                go_simp
                                                with_reducible rfl
                                              rotate_left
                                              · simp only [Act.put, List.setIfInBounds_toArray, List.set_cons_zero, List.set_cons_succ, i64_w, i32_w]
                                                rfl
                                              refine pure_ (i := 17) (N := some 137) (v := ?_) (a' := ?_) #[true, true, true, true, true, true, true, true, true, true, true, true, true, true, true, true, true, true, false, false, false, false, false, false, false, false, false, false, false, false] rfl rfl (any_of HT_.out (by kernel_rfl)) (fun _ _ _ h => h) (Or.inl ⟨by rfl, ?_⟩) ?_ ?_
                                              rotate_left
                                              · intro w'
                                                go_simp
                                                with_reducible rfl
                                              rotate_left
                                              · simp only [Act.put, List.setIfInBounds_toArray, List.set_cons_zero, List.set_cons_succ, i64_w, i32_w]
                                                rfl
                                              refine pure_ (i := 18) (N := some 138) (v := ?_) (a' := ?_) #[true, true, true, true, true, true, true, true, true, true, true, true, true, true, true, true, true, true, true, false, false, false, false, false, false, false, false, false, false, false] rfl rfl (any_of HT_.out (by kernel_rfl)) (fun _ _ _ h => h) (Or.inl ⟨by rfl, ?_⟩) ?_ ?_
                                              rotate_left
                                              · intro w'
                                                go_simp
                                                with_reducible rfl
                                              rotate_left
                                              · simp only [Act.put, List.setIfInBounds_toArray, List.set_cons_zero, List.set_cons_succ, i64_w, i32_w]
                                                rfl
                                              refine pure_ (i := 19) (N := some 139) (v := ?_) (a' := ?_) #[true, true, true, true, true, true, true, true, true, true, true, true, true, true, true, true, true, true, true, true, false, false, false, false, false, false, false, false, false, false] rfl rfl (any_of HT_.out (by kernel_rfl)) (fun _ _ _ h => h) (Or.inl ⟨by rfl, ?_⟩) ?_ ?_
                                              rotate_left
                                              · intro w'
                                                go_simp
                                                with_reducible rfl
                                              rotate_left
                                              · simp only [Act.put, List.setIfInBounds_toArray, List.set_cons_zero, List.set_cons_succ, i64_w, i32_w]
                                                rfl
                                              refine pure_ (i := 21) (N := some 141) (v := ?_) (a' := ?_) #[true, true, true, true, true, true, true, true, true, true, true, true, true, true, true, true, true, true, true, true, false, true, false, false, false, false, false, false, false, false] rfl rfl (any_of HT_.out (by kernel_rfl)) (fun _ _ _ h => h) (Or.inl ⟨by rfl, ?_⟩) ?_ ?_
                                              rotate_left
                                              · intro w'
                                                go_simp
                                                with_reducible rfl
                                              rotate_left
                                              · simp only [Act.put, List.setIfInBounds_toArray, List.set_cons_zero, List.set_cons_succ, i64_w, i32_w]
                                                rfl
                                              refine pure_ (i := 22) (N := some 142) (v := ?_) (a' := ?_) #[true, true, true, true, true, true, true, true, true, true, true, true, true, true, true, true, true, true, true, true, false, true, true, false, false, false, false, false, false, false] rfl rfl (any_of HT_.out (by kernel_rfl)) (fun _ _ _ h => h) (Or.inl ⟨by rfl, ?_⟩) ?_ ?_
                                              rotate_left
                                              · intro w'
                                                go_simp
                                                with_reducible rfl
                                              rotate_left
                                              · simp only [Act.put, List.setIfInBounds_toArray, List.set_cons_zero, List.set_cons_succ, i64_w, i32_w]
                                                rfl
                                              refine pure_ (i := 23) (N := some 143) (v := ?_) (a' := ?_) #[true, true, true, true, true, true, true, true, true, true, true, true, true, true, true, true, true, true, true, true, false, true, true, true, false, false, false, false, false, false] rfl rfl (any_of HT_.out (by kernel_rfl)) (fun _ _ _ h => h) (Or.inl ⟨by rfl, ?_⟩) ?_ ?_
                                              rotate_left
                                              · intro w'
                                                go_simp
                                                with_reducible rfl
                                              rotate_left
                                              · simp only [Act.put, List.setIfInBounds_toArray, List.set_cons_zero, List.set_cons_succ, i64_w, i32_w]
                                                rfl
                                              refine pure_ (i := 24) (N := some 144) (v := ?_) (a' := ?_) #[true, true, true, true, true, true, true, true, true, true, true, true, true, true, true, true, true, true, true, true, false, true, true, true, true, false, false, false, false, false] rfl rfl (any_of HT_.out (by kernel_rfl)) (fun _ _ _ h => h) (Or.inl ⟨by rfl, ?_⟩) ?_ ?_
                                              rotate_left
                                              · intro w'
                                                go_simp
                                                with_reducible rfl
                                              rotate_left
                                              · simp only [Act.put, List.setIfInBounds_toArray, List.set_cons_zero, List.set_cons_succ, i64_w, i32_w]
                                                rfl
                                              refine pure_ (i := 25) (N := some 145) (v := ?_) (a' := ?_) #[true, true, true, true, true, true, true, true, true, true, true, true, true, true, true, true, true, true, true, true, false, true, true, true, true, true, false, false, false, false] rfl rfl (any_of HT_.out (by kernel_rfl)) (fun _ _ _ h => h) (Or.inl ⟨by rfl, ?_⟩) ?_ ?_
                                              rotate_left
                                              · intro w'
                                                go_simp
                                                with_reducible rfl
                                              rotate_left
                                              · simp only [Act.put, List.setIfInBounds_toArray, List.set_cons_zero, List.set_cons_succ, i64_w, i32_w]
                                                rfl
                                              refine take_ (i := 20) (N := some 140) (v := ?_) (a' := ?_) #[true, true, true, true, true, true, true, true, true, true, true, true, true, true, true, true, true, true, true, true, true, true, true, true, true, true, false, false, false, false] rfl rfl (take_ofW HT_.out HW_.out (by kernel_rfl)) (fun _ _ _ h => h) (Or.inl ⟨by rfl, ?_⟩) hHeld ?_ ?_
                                              rotate_left
                                              · rintro w' ⟨s0, s1⟩
                                                go_simp
                                                with_reducible rfl
                                              rotate_left
                                              · simp only [Act.put, List.setIfInBounds_toArray, List.set_cons_zero, List.set_cons_succ, i64_w, i32_w]
                                                rfl
                                              refine one_ (i := 26) (N := some 146) #[true, true, true, true, true, true, true, true, true, true, true, true, true, true, true, true, true, true, true, true, true, true, true, true, true, true, true, false, false, false] rfl rfl (one_of HT_.out (by kernel_rfl)) (by decide) (fun K hK => ?_)
                                              refine goes_ Try.func18 (by kernel_rfl) rfl #[.int .u64 t108, .int .i64 (l0.length : Int), .int .i64 (ji66), .string (rdOf ByteArray.empty l0 (ji66)), .slice Ao24 y145.length co24] (by rfl) rfl rfl (by (try simp only [List.map_toArray, List.map_cons, List.map_nil]); first | done | (simp only [hji66]; rfl) | rfl | (simp only [List.length_drop, List.length_take]; rfl)) ?_
                                              with_reducible refine (merkle_Verify.calls t108 (l0.length : Int) (ji66) (rdOf ByteArray.empty l0 (ji66)) _ _ y145 t149 _ ?side1 ?side2 A82.out).mono ?_
                                              (case side1 => repeat (first | exact (by repeat (first | (with_reducible exact HR148.out) | (with_reducible refine Kd.C_alloc ?_ _) | (with_reducible refine Kd.C_drewN ?_ _) | (with_reducible refine Kd.C_drew ?_) | exact HR148.out)) | (with_reducible refine Kd.C_alloc ?_ _) | (with_reducible refine Kd.C_drewN ?_ _) | (with_reducible refine Kd.C_drew ?_)))
                                              (case side2 => exact HC148.out)
                                              rintro e w92 ⟨rfl, hb⟩
                                              refine ⟨_, rfl, ?_⟩
                                              have n0_ := Aside0.mk (Kd.R_below (by (with_reducible repeat (first | apply Kd.R_alloc | apply Kd.R_drewN | apply Kd.R_drew)); exact HO_14.out) hb)
                                              have n1_ := Aside0.mk (Kd.R_below (by (with_reducible repeat (first | apply Kd.R_alloc | apply Kd.R_drewN | apply Kd.R_drew)); exact HO139.out) hb)
                                              have n2_ := Aside0.mk (blk_below (g := gb105) (o := .cells #[.int .u64 a3_0, .bool a3_1] 42 (0, 0)) (by (with_reducible repeat (first | refine blk_drewN ?_ _ | refine blk_drew ?_ | refine blk_alloc ?_ _)); exact BK105.out) hb)
                                              have n3_ := Aside0.mk (Kd.C_below (by repeat (first | (with_reducible exact HR148.out) | (with_reducible refine Kd.C_alloc ?_ _) | (with_reducible refine Kd.C_drewN ?_ _) | (with_reducible refine Kd.C_drew ?_) | exact HR148.out)) hb)
                                              have n4_ := Aside0.mk (below_step (by repeat (first | (with_reducible first | exact HB.out | apply below_alloc | apply pw_below_drewN | apply below_drew1 | refine below_set ?_ GE105.out) | exact HB.out)) hb)
                                              clear HO_14
                                              clear HO139
                                              clear BK105
                                              clear HR148
                                              clear HB
                                              have HO_14 := n0_
                                              have HO139 := n1_
                                              have BK105 := n2_
                                              have HR148 := n3_
                                              have HB := n4_
                                              clear n0_ n1_ n2_ n3_ n4_
                                              (try clear hb)
                                              (try clear hb2)
                                              (try clear hk)
                                              (try clear hi)
                                              refine hK.out _ _ ⟨((HB.out.cell (World.block_lt_of_cell? w _ hw142_0)).trans hw142_0), ((HB.out.cell (World.block_lt_of_cell? w _ hw144_0)).trans hw144_0)⟩ (fun hHeld => ?_)
                                              clear hK K
                                              refine norm_ (a' := ?_) ?_ ?_
                                              rotate_left
                                              · show Act.put _ (some 146) _ = _
                                                simp only [Act.put, List.setIfInBounds_toArray, List.set_cons_zero, List.set_cons_succ, i64_w, i32_w]
                                                rfl
                                              refine pure_ (i := 27) (N := some 147) (v := ?_) (a' := ?_) #[true, true, true, true, true, true, true, true, true, true, true, true, true, true, true, true, true, true, true, true, true, true, true, true, true, true, true, true, false, false] rfl rfl (any_of HT_.out (by kernel_rfl)) (fun _ _ _ h => h) (Or.inl ⟨by rfl, ?_⟩) ?_ ?_
                                              rotate_left
                                              · intro w'
                                                go_simp
                                                with_reducible rfl
                                              rotate_left
                                              · simp only [Act.put, List.setIfInBounds_toArray, List.set_cons_zero, List.set_cons_succ, i64_w, i32_w]
                                                rfl
                                              refine pure_ (i := 28) (N := some 148) (v := ?_) (a' := ?_) #[true, true, true, true, true, true, true, true, true, true, true, true, true, true, true, true, true, true, true, true, true, true, true, true, true, true, true, true, true, false] rfl rfl (any_of HT_.out (by kernel_rfl)) (fun _ _ _ h => h) (Or.inl ⟨by rfl, ?_⟩) ?_ ?_
                                              rotate_left
                                              · intro w'
                                                go_simp
                                                with_reducible rfl
                                              rotate_left
                                              · simp only [Act.put, List.setIfInBounds_toArray, List.set_cons_zero, List.set_cons_succ, i64_w, i32_w]
                                                rfl
                                              refine pure_ (i := 29) (N := some 8) (v := ?_) (a' := ?_) #[true, true, true, true, true, true, true, true, true, true, true, true, true, true, true, true, true, true, true, true, true, true, true, true, true, true, true, true, true, true] rfl rfl (any_of HT_.out (by kernel_rfl)) (fun _ _ _ h => h) (Or.inl ⟨by rfl, ?_⟩) ?_ ?_
                                              rotate_left
                                              · intro w'
                                                go_simp
                                                with_reducible rfl
                                              rotate_left
                                              · simp only [Act.put, List.setIfInBounds_toArray, List.set_cons_zero, List.set_cons_succ, i64_w, i32_w]
                                                rfl
                                              refine done_ (done_of HT_.out (by kernel_rfl)) ?_
                                              try go_wp2
                                              go_ret
                                              exact ⟨by first | rfl | (simp [errW_none, errW_some] <;> rfl) | (simp only [← hji61, ← hji66, ← hji79]; first | rfl | (simp [errW_none, errW_some] <;> rfl)) | (simp [*, errW_none, errW_some] <;> rfl), by repeat (first | (with_reducible first | exact HB.out | apply below_alloc | apply pw_below_drewN | apply below_drew1 | refine below_set ?_ GE105.out) | exact HB.out)⟩
                                            · rw [if_neg c81] at H
                                              exact absurd H (by simp)
                                          · rw [if_neg c80] at H
                                            exact absurd H (by simp)
                                      · rw [if_neg c68] at H
                                        exact absurd H (by simp)
                                    · rw [if_neg c67] at H
                                      exact absurd H (by simp)
                                  · replace c65 := Bool.eq_false_iff.mpr c65
                                    subst c65
                                    have H1 : (some false) = some r := by rw [if_neg (show ¬ (false = true) by decide)] at H; exact H
                                    clear H
                                    have H := H1
                                    clear H1
                                    obtain rfl := Option.some.inj H
                                    try go_wp2_with (first | ((with_reducible refine gate_dst (N := 102) rfl ?_); (try (refine gate_guard (by rfl) ?_; dsimp only)); refine Kd.R_lit k42 _ 42 ?hg (N := 102) ?hd (xs := ([] : List (S42))) (inner := []) (ok := fun _ => True) (okp := fun _ => True) ?hr ?hp (fun _ hk => hk) trivial (Below.refl _ _) (Nat.le_refl _) (by simp) ?_; (case hd => rfl); (case hg => rfl); (case hr => first | (go_simp; done) | (go_simp; rfl)); (case hp => exact (Reps.none _ _)); intro v135 w93 ho94 hb hg_ hnew_; clear hg_ hnew_; (first | rw [← Ny134.out] at ho94 | (simp only [Int.reduceToNat] at ho94; rw [← Ny134.out] at ho94)); have n0_ := Aside0.mk (Kd.R_elder' (by (with_reducible repeat (first | apply Kd.R_alloc | apply Kd.R_drewN | apply Kd.R_drew)); exact HO_14.out) (Kd.R_base ho94) hb); have n1_ := Aside0.mk (Kd.R_lower (Kd.R_newB (Kd.R_new' ho94 (Kd.R_lt (by (with_reducible repeat (first | apply Kd.R_alloc | apply Kd.R_drewN | apply Kd.R_drew)); exact HO_14.out))) (g := gb105) (o := .cells #[.int .u64 a3_0, .bool a3_1] 42 (0, 0)) (by (with_reducible repeat (first | refine blk_drewN ?_ _ | refine blk_drew ?_ | refine blk_alloc ?_ _)); exact BK105.out)) (below_size (by repeat (first | (with_reducible first | exact HB.out | apply below_alloc | apply pw_below_drewN | apply below_drew1 | refine below_set ?_ GE105.out) | exact HB.out)))); have n2_ := Aside0.mk (blk_below (g := gb105) (o := .cells #[.int .u64 a3_0, .bool a3_1] 42 (0, 0)) (by (with_reducible repeat (first | refine blk_drewN ?_ _ | refine blk_drew ?_ | refine blk_alloc ?_ _)); exact BK105.out) hb); have n3_ := Aside0.mk (below_step (by repeat (first | (with_reducible first | exact HB.out | apply below_alloc | apply pw_below_drewN | apply below_drew1 | refine below_set ?_ GE105.out) | exact HB.out)) hb); clear HO_14; clear BK105; clear HB; have HO_14 := n0_; have HO136 := n1_; have BK105 := n2_; have HB := n3_; clear n0_ n1_ n2_ n3_; clear hb ho94) | ((with_reducible refine gate_builtin (b := .append) (xs := #[.tmp 102, .tmp 103]) rfl ?_); (try (refine gate_guard (by rfl) ?_; dsimp only)); at_builtin; refine Kd.R_append_rows k42 (w0 := w) w.heap.size rfl (.tmp 102) (.tmp 103) 25 42 (.agg #[(.int .u64 0), (.bool false)]) 16 rfl Try.underlying25 info42 rfl (by decide) (by omega) v135 y134 t110 _ _ _ (fun k_ => some k_ ≠ (.slice Ao24 t110.length co24 : Value).ownBlock ∧ k_ ≠ gb105) (fun _ => False) rfl rfl ?aO ?aR (fun _ _ h => h) (fun _ h => h.elim) ?aF ?aB ?aS ?aL ?_; (case aR => repeat (first | exact (Kd.R_reads' HO_14.out).2.2 | (with_reducible refine Kd.C_alloc ?_ _) | (with_reducible refine Kd.C_drewN ?_ _) | (with_reducible refine Kd.C_drew ?_))); (case aB => exact (by repeat (first | (with_reducible first | exact HB.out | apply below_alloc | apply pw_below_drewN | apply below_drew1 | refine below_set ?_ GE105.out) | exact HB.out))); (case aF => exact (fun k_ hk => ⟨Kd.fresh' (Kd.R_lt (by (with_reducible repeat (first | apply Kd.R_alloc | apply Kd.R_drewN | apply Kd.R_drew)); exact HO_14.out)) k_ hk, Kd.freshB (g := gb105) (o := .cells #[.int .u64 a3_0, .bool a3_1] 42 (0, 0)) (by (with_reducible repeat (first | refine blk_drewN ?_ _ | refine blk_drew ?_ | refine blk_alloc ?_ _)); exact BK105.out) k_ hk⟩)); (case aO => exact (by (with_reducible repeat (first | apply Kd.R_alloc | apply Kd.R_drewN | apply Kd.R_drew)); exact Kd.R_mono HO136.out (fun _ hk => ⟨hk.1.2, hk.2⟩))); (case aS => exact (below_size (by repeat (first | (with_reducible first | exact HB.out | apply below_alloc | apply pw_below_drewN | apply below_drew1 | refine below_set ?_ GE105.out) | exact HB.out)))); (case aL => have := LMc60.out; omega); intro v138 w95 ho hb hg hat; rw [← Ny137.out] at ho; have n0_ := Aside0.mk (Kd.R_after (ok := (fun k_ => k_ ≠ gb105)) (by (with_reducible repeat (first | apply Kd.R_alloc | apply Kd.R_drewN | apply Kd.R_drew)); exact HO_14.out) hg hat); have n1_ := Aside0.mk (blk_grown (g := gb105) (o := .cells #[.int .u64 a3_0, .bool a3_1] 42 (0, 0)) (by (with_reducible repeat (first | refine blk_drewN ?_ _ | refine blk_drew ?_ | refine blk_alloc ?_ _)); exact BK105.out) hg (Kd.R_away HO136.out (fun _ hk => hk.2))); have n2_ := Aside0.mk (hb); have n3_ := Aside0.mk (ho); clear HO_14; clear BK105; clear HB; clear HO136; have HO_14 := n0_; have BK105 := n1_; have HB := n2_; have HO139 := n3_; clear n0_ n1_ n2_ n3_; clear ho hb hg hat; obtain ⟨Ao96, co96, eo96⟩ := Kd.R_slice HO139.out; subst eo96; have p140 : 0 ≤ ((ji61) : Int) := of_decide_eq_true (by first | (with_reducible assumption) | assumption); have q140 : (ji61) < (y137.length : Int) := of_decide_eq_true (by first | (with_reducible assumption) | assumption); obtain ⟨ad140, e140, hx140_0, hx140_1⟩ := at_T42 (Kd.R_reads' HO139.out).2.2 (ji61) p140 q140; cases e140; replace p140 := eq_true p140; replace q140 := eq_true q140; have p64 : 0 ≤ ((ji61) : Int) := of_decide_eq_true (by first | (with_reducible assumption) | assumption); have q64 : ((ji61) : Int) < ((y137.length : Int) : Int) := of_decide_eq_true (by first | (with_reducible assumption) | assumption); obtain ⟨go64, co64, eo64, gb64, gl64, cl64, HG64⟩ := Kd.R_form HO139.out (by omega); (first | cases eo64 | (injection eo64 with ea_ en_ ec_; (first | subst ea_ | (injection ea_ with ea_; subst ea_)); subst ec_; clear en_)); have GB64 := Aside0.mk gb64; have GG64 := Aside0.mk HG64; clear gb64 gl64 HG64; (first | simp only [add_plain] at hx140_0 | skip); (first | simp only [add_plain] at hx140_1 | skip); obtain ⟨ce64, hcl64, hM64, hcc64, hfr64⟩ := Kd.R_elem HO139.out z42 ((ji61) : Int) p64 q64; obtain rfl := k42_openM hM64; have hx64_0 : w95.cell? ⟨go64, ((ji61) : Int).toNat * 2, none⟩ = some (.int .u64 ((rd_T42 y137 (ji61)).f0)) := hcc64 0 _ rfl; have hx64_1 : w95.cell? ⟨go64, ((ji61) : Int).toNat * 2 + 1, none⟩ = some (.bool ((rd_T42 y137 (ji61)).f1)) := hcc64 1 _ rfl; have hf64_0 : w95.frozen? ⟨go64, ((ji61) : Int).toNat * 2, none⟩ = false := hfr64 0; have hf64_1 : w95.frozen? ⟨go64, ((ji61) : Int).toNat * 2 + 1, none⟩ = false := hfr64 1; clear hcl64 hcc64 hfr64 hM64; replace p64 := eq_true p64; replace q64 := eq_true q64; have HX97 := Aside0.mk (show Kd.R k42 42 w95 w.heap.size (fun k_ => some k_ ≠ (.slice Ao24 t110.length co24 : Value).ownBlock ∧ k_ ≠ gb105) (.slice (some ⟨go64, 0, none⟩) y137.length co96) y137 from (by (with_reducible repeat (first | apply Kd.R_alloc | apply Kd.R_drewN | apply Kd.R_drew)); exact HO139.out)); obtain ⟨ce97, hcl97, hM97, hcc97, hfr97⟩ := Kd.R_elem HX97.out z42 ((ji61) : Int) (of_decide_eq_true (by first | (with_reducible assumption) | assumption)) (by have h_ : ((ji61) : Int) < ((y137.length : Int) : Int) := of_decide_eq_true (by first | (with_reducible assumption) | assumption); first | exact h_ | (have e_ := (Kd.R_reads' HO139.out).1; omega) | simpa using h_); obtain rfl := k42_openM hM97; have HP97 := Kd.R_seg HX97.out ((ji61) : Int) (of_decide_eq_true (by first | (with_reducible assumption) | assumption)) (by have h_ : ((ji61) : Int) < ((y137.length : Int) : Int) := of_decide_eq_true (by first | (with_reducible assumption) | assumption); first | exact h_ | (have e_ := (Kd.R_reads' HO139.out).1; omega) | simpa using h_) (seg := [.bool (!((rd_T42 y137 (ji61)).f1))]) (j := 1) hcl97 hcc97 (show 2 ≤ 2 from by decide) (x' := (⟨(rd_T42 y137 (ji61)).f0, !((rd_T42 y137 (ji61)).f1)⟩ : S42)) (k42_mkM _ _ _ (⟨(rd_T42 y137 (ji61)).f0, !((rd_T42 y137 (ji61)).f1)⟩ : S42) ) (fun _ hk => hk); have hx97_1 := hcc97 1 _ rfl; (try simp only [show (k42).sz = 2 from rfl, Nat.mul_one, Nat.add_zero] at hx97_1); have hf97_1 := hfr97 1; (try simp only [show (k42).sz = 2 from rfl, Nat.mul_one, Nat.add_zero] at hf97_1); clear hcl97 hcc97 hfr97 hM97) | ((with_reducible refine gate_store (t := 4) (p := 119) rfl ?_); refine store_event (t := 4) (p := 119) (v := ?vo_w98) (w1 := (w95.setCell ⟨go64, ((ji61) : Int).toNat * 2 + 1, none⟩ (.bool (!((rd_T42 y137 (ji61)).f1))))) ?hg ?ho ?hn ?hr ?_; (case ho => rfl); (case hg => rfl); (case hn => rfl); (case hr => first | (go_simp; done) | (go_simp; rfl)); intro w98 hw; have hg : w95.grownBy w98 (some go64) := (by rw [hw]; exact HP97.2); have hp_ : Kd.R k42 42 w98 w.heap.size (fun k_ => some k_ ≠ (.slice Ao24 t110.length co24 : Value).ownBlock ∧ k_ ≠ gb105) (.slice (some ⟨go64, 0, none⟩) y137.length co96) y141 := (by rw [hw, Ny141.out]; exact HP97.1); clear HP97; have n0_ := Aside0.mk (Kd.R_after (v := (.slice (some ⟨go64, 0, none⟩) y137.length co96)) (v1 := (.slice (some ⟨go64, 0, none⟩) y137.length co96)) (ok := (fun k_ => k_ ≠ gb105)) (by (with_reducible repeat (first | apply Kd.R_alloc | apply Kd.R_drewN | apply Kd.R_drew)); exact HO_14.out) hg (.inl rfl)); have n1_ := Aside0.mk (blk_grown (g := gb105) (o := .cells #[.int .u64 a3_0, .bool a3_1] 42 (0, 0)) (by (with_reducible repeat (first | refine blk_drewN ?_ _ | refine blk_drew ?_ | refine blk_alloc ?_ _)); exact BK105.out) hg (Kd.R_away HO139.out (fun _ hk => hk.2))); have n2_ := Aside0.mk (hp_); have n3_ := Aside0.mk ((by rw [hw]; exact below_set (HB.out) GB64.out : Below w.heap.size w w98)); clear HO_14; clear BK105; clear HO139; clear HB; have HO_14 := n0_; have BK105 := n1_; have HO139 := n2_; have HB := n3_; clear n0_ n1_ n2_ n3_; clear hg hw hp_))
                                    have n0_ := Aside0.mk (Kd.R_drew HO_14.out)
                                    have n1_ := Aside0.mk (Kd.R_drew HO139.out)
                                    have n2_ := Aside0.mk (blk_drew BK105.out)
                                    have n3_ := Aside0.mk (below_drew1 HB.out)
                                    clear HO_14
                                    clear HO139
                                    clear BK105
                                    clear HB
                                    have HO_14 := n0_
                                    have HO139 := n1_
                                    have BK105 := n2_
                                    have HB := n3_
                                    clear n0_ n1_ n2_ n3_
                                    refine start_ (n := 30) (S := fun w' => True) (ds := []) #[false, false, false, false, false, false, false, false, false, false, false, false, false, false, false, false, false, false, false, false, false, false, false, false, false, false, false, false, false, false] (by kernel_rfl) rfl rfl trivial (fun hHeld => ?_); refine with_tabW wageofficelaw24_MerkleForms.tab18 wageofficelaw24_MerkleForms.bits18 (fun HT_ HW_ => ?_)
                                    generalize w98.drew = w99 at HO_14 HO139 BK105 HB hHeld ⊢
                                    refine pure_ (i := 0) (N := some 120) (v := ?_) (a' := ?_) #[true, false, false, false, false, false, false, false, false, false, false, false, false, false, false, false, false, false, false, false, false, false, false, false, false, false, false, false, false, false] rfl rfl (any_of HT_.out (by kernel_rfl)) (fun _ _ _ h => h) (Or.inl ⟨by rfl, ?_⟩) ?_ ?_
                                    rotate_left
                                    · intro w'
                                      go_simp
                                      with_reducible rfl
                                    rotate_left
                                    · simp only [Act.put, List.setIfInBounds_toArray, List.set_cons_zero, List.set_cons_succ, i64_w, i32_w]
                                      rfl
                                    refine pure_ (i := 1) (N := some 121) (v := ?_) (a' := ?_) #[true, true, false, false, false, false, false, false, false, false, false, false, false, false, false, false, false, false, false, false, false, false, false, false, false, false, false, false, false, false] rfl rfl (any_of HT_.out (by kernel_rfl)) (fun _ _ _ h => h) (Or.inl ⟨by rfl, ?_⟩) ?_ ?_
                                    rotate_left
                                    · intro w'
                                      go_simp
                                      with_reducible rfl
                                    rotate_left
                                    · simp only [Act.put, List.setIfInBounds_toArray, List.set_cons_zero, List.set_cons_succ, i64_w, i32_w]
                                      rfl
                                    refine pure_ (i := 2) (N := some 122) (v := undef) (a' := ?_) #[true, true, true, false, false, false, false, false, false, false, false, false, false, false, false, false, false, false, false, false, false, false, false, false, false, false, false, false, false, false] rfl rfl (any_of HT_.out (by kernel_rfl)) (fun _ _ _ h => h) (Or.inr ⟨by rfl, rfl⟩) ?_ ?_
                                    rotate_left
                                    · simp only [Act.put, List.setIfInBounds_toArray, List.set_cons_zero, List.set_cons_succ, i64_w, i32_w]
                                      rfl
                                    refine pure_ (i := 3) (N := some 123) (v := undef) (a' := ?_) #[true, true, true, true, false, false, false, false, false, false, false, false, false, false, false, false, false, false, false, false, false, false, false, false, false, false, false, false, false, false] rfl rfl (any_of HT_.out (by kernel_rfl)) (fun _ _ _ h => h) (Or.inr ⟨by rfl, rfl⟩) ?_ ?_
                                    rotate_left
                                    · simp only [Act.put, List.setIfInBounds_toArray, List.set_cons_zero, List.set_cons_succ, i64_w, i32_w]
                                      rfl
                                    refine pure_ (i := 4) (N := some 124) (v := undef) (a' := ?_) #[true, true, true, true, true, false, false, false, false, false, false, false, false, false, false, false, false, false, false, false, false, false, false, false, false, false, false, false, false, false] rfl rfl (any_of HT_.out (by kernel_rfl)) (fun _ _ _ h => h) (Or.inr ⟨by rfl, rfl⟩) ?_ ?_
                                    rotate_left
                                    · simp only [Act.put, List.setIfInBounds_toArray, List.set_cons_zero, List.set_cons_succ, i64_w, i32_w]
                                      rfl
                                    refine pure_ (i := 5) (N := some 125) (v := undef) (a' := ?_) #[true, true, true, true, true, true, false, false, false, false, false, false, false, false, false, false, false, false, false, false, false, false, false, false, false, false, false, false, false, false] rfl rfl (any_of HT_.out (by kernel_rfl)) (fun _ _ _ h => h) (Or.inr ⟨by rfl, rfl⟩) ?_ ?_
                                    rotate_left
                                    · simp only [Act.put, List.setIfInBounds_toArray, List.set_cons_zero, List.set_cons_succ, i64_w, i32_w]
                                      rfl
                                    refine pure_ (i := 6) (N := some 126) (v := undef) (a' := ?_) #[true, true, true, true, true, true, true, false, false, false, false, false, false, false, false, false, false, false, false, false, false, false, false, false, false, false, false, false, false, false] rfl rfl (any_of HT_.out (by kernel_rfl)) (fun _ _ _ h => h) (Or.inr ⟨by rfl, rfl⟩) ?_ ?_
                                    rotate_left
                                    · simp only [Act.put, List.setIfInBounds_toArray, List.set_cons_zero, List.set_cons_succ, i64_w, i32_w]
                                      rfl
                                    refine pure_ (i := 7) (N := some 127) (v := undef) (a' := ?_) #[true, true, true, true, true, true, true, true, false, false, false, false, false, false, false, false, false, false, false, false, false, false, false, false, false, false, false, false, false, false] rfl rfl (any_of HT_.out (by kernel_rfl)) (fun _ _ _ h => h) (Or.inr ⟨by rfl, rfl⟩) ?_ ?_
                                    rotate_left
                                    · simp only [Act.put, List.setIfInBounds_toArray, List.set_cons_zero, List.set_cons_succ, i64_w, i32_w]
                                      rfl
                                    refine pure_ (i := 8) (N := some 128) (v := undef) (a' := ?_) #[true, true, true, true, true, true, true, true, true, false, false, false, false, false, false, false, false, false, false, false, false, false, false, false, false, false, false, false, false, false] rfl rfl (any_of HT_.out (by kernel_rfl)) (fun _ _ _ h => h) (Or.inr ⟨by rfl, rfl⟩) ?_ ?_
                                    rotate_left
                                    · simp only [Act.put, List.setIfInBounds_toArray, List.set_cons_zero, List.set_cons_succ, i64_w, i32_w]
                                      rfl
                                    refine pure_ (i := 9) (N := some 129) (v := undef) (a' := ?_) #[true, true, true, true, true, true, true, true, true, true, false, false, false, false, false, false, false, false, false, false, false, false, false, false, false, false, false, false, false, false] rfl rfl (any_of HT_.out (by kernel_rfl)) (fun _ _ _ h => h) (Or.inr ⟨by rfl, rfl⟩) ?_ ?_
                                    rotate_left
                                    · simp only [Act.put, List.setIfInBounds_toArray, List.set_cons_zero, List.set_cons_succ, i64_w, i32_w]
                                      rfl
                                    refine pure_ (i := 10) (N := some 130) (v := undef) (a' := ?_) #[true, true, true, true, true, true, true, true, true, true, true, false, false, false, false, false, false, false, false, false, false, false, false, false, false, false, false, false, false, false] rfl rfl (any_of HT_.out (by kernel_rfl)) (fun _ _ _ h => h) (Or.inr ⟨by rfl, rfl⟩) ?_ ?_
                                    rotate_left
                                    · simp only [Act.put, List.setIfInBounds_toArray, List.set_cons_zero, List.set_cons_succ, i64_w, i32_w]
                                      rfl
                                    refine pure_ (i := 11) (N := some 131) (v := undef) (a' := ?_) #[true, true, true, true, true, true, true, true, true, true, true, true, false, false, false, false, false, false, false, false, false, false, false, false, false, false, false, false, false, false] rfl rfl (any_of HT_.out (by kernel_rfl)) (fun _ _ _ h => h) (Or.inr ⟨by rfl, rfl⟩) ?_ ?_
                                    rotate_left
                                    · simp only [Act.put, List.setIfInBounds_toArray, List.set_cons_zero, List.set_cons_succ, i64_w, i32_w]
                                      rfl
                                    refine pure_ (i := 12) (N := some 132) (v := ?_) (a' := ?_) #[true, true, true, true, true, true, true, true, true, true, true, true, true, false, false, false, false, false, false, false, false, false, false, false, false, false, false, false, false, false] rfl rfl (any_of HT_.out (by kernel_rfl)) (fun _ _ _ h => h) (Or.inl ⟨by rfl, ?_⟩) ?_ ?_
                                    rotate_left
                                    · intro w'
                                      go_simp
                                      with_reducible rfl
                                    rotate_left
                                    · simp only [Act.put, List.setIfInBounds_toArray, List.set_cons_zero, List.set_cons_succ, i64_w, i32_w]
                                      rfl
                                    refine pure_ (i := 13) (N := some 133) (v := ?_) (a' := ?_) #[true, true, true, true, true, true, true, true, true, true, true, true, true, true, false, false, false, false, false, false, false, false, false, false, false, false, false, false, false, false] rfl rfl (any_of HT_.out (by kernel_rfl)) (fun _ _ _ h => h) (Or.inl ⟨by rfl, ?_⟩) ?_ ?_
                                    rotate_left
                                    · intro w'
                                      go_simp
                                      with_reducible rfl
                                    rotate_left
                                    · simp only [Act.put, List.setIfInBounds_toArray, List.set_cons_zero, List.set_cons_succ, i64_w, i32_w]
                                      rfl
                                    refine pure_ (i := 14) (N := some 134) (v := undef) (a' := ?_) #[true, true, true, true, true, true, true, true, true, true, true, true, true, true, true, false, false, false, false, false, false, false, false, false, false, false, false, false, false, false] rfl rfl (any_of HT_.out (by kernel_rfl)) (fun _ _ _ h => h) (Or.inr ⟨by rfl, rfl⟩) ?_ ?_
                                    rotate_left
                                    · simp only [Act.put, List.setIfInBounds_toArray, List.set_cons_zero, List.set_cons_succ, i64_w, i32_w]
                                      rfl
                                    refine pure_ (i := 15) (N := some 135) (v := undef) (a' := ?_) #[true, true, true, true, true, true, true, true, true, true, true, true, true, true, true, true, false, false, false, false, false, false, false, false, false, false, false, false, false, false] rfl rfl (any_of HT_.out (by kernel_rfl)) (fun _ _ _ h => h) (Or.inr ⟨by rfl, rfl⟩) ?_ ?_
                                    rotate_left
                                    · simp only [Act.put, List.setIfInBounds_toArray, List.set_cons_zero, List.set_cons_succ, i64_w, i32_w]
                                      rfl
                                    refine pure_ (i := 16) (N := some 136) (v := undef) (a' := ?_) #[true, true, true, true, true, true, true, true, true, true, true, true, true, true, true, true, true, false, false, false, false, false, false, false, false, false, false, false, false, false] rfl rfl (any_of HT_.out (by kernel_rfl)) (fun _ _ _ h => h) (Or.inr ⟨by rfl, rfl⟩) ?_ ?_
                                    rotate_left
                                    · simp only [Act.put, List.setIfInBounds_toArray, List.set_cons_zero, List.set_cons_succ, i64_w, i32_w]
                                      rfl
                                    refine pure_ (i := 17) (N := some 137) (v := undef) (a' := ?_) #[true, true, true, true, true, true, true, true, true, true, true, true, true, true, true, true, true, true, false, false, false, false, false, false, false, false, false, false, false, false] rfl rfl (any_of HT_.out (by kernel_rfl)) (fun _ _ _ h => h) (Or.inr ⟨by rfl, rfl⟩) ?_ ?_
                                    rotate_left
                                    · simp only [Act.put, List.setIfInBounds_toArray, List.set_cons_zero, List.set_cons_succ, i64_w, i32_w]
                                      rfl
                                    refine pure_ (i := 18) (N := some 138) (v := undef) (a' := ?_) #[true, true, true, true, true, true, true, true, true, true, true, true, true, true, true, true, true, true, true, false, false, false, false, false, false, false, false, false, false, false] rfl rfl (any_of HT_.out (by kernel_rfl)) (fun _ _ _ h => h) (Or.inr ⟨by rfl, rfl⟩) ?_ ?_
                                    rotate_left
                                    · simp only [Act.put, List.setIfInBounds_toArray, List.set_cons_zero, List.set_cons_succ, i64_w, i32_w]
                                      rfl
                                    refine pure_ (i := 19) (N := some 139) (v := undef) (a' := ?_) #[true, true, true, true, true, true, true, true, true, true, true, true, true, true, true, true, true, true, true, true, false, false, false, false, false, false, false, false, false, false] rfl rfl (any_of HT_.out (by kernel_rfl)) (fun _ _ _ h => h) (Or.inr ⟨by rfl, rfl⟩) ?_ ?_
                                    rotate_left
                                    · simp only [Act.put, List.setIfInBounds_toArray, List.set_cons_zero, List.set_cons_succ, i64_w, i32_w]
                                      rfl
                                    refine pure_ (i := 20) (N := some 140) (v := undef) (a' := ?_) #[true, true, true, true, true, true, true, true, true, true, true, true, true, true, true, true, true, true, true, true, true, false, false, false, false, false, false, false, false, false] rfl rfl (any_of HT_.out (by kernel_rfl)) (fun _ _ _ h => h) (Or.inr ⟨by rfl, rfl⟩) ?_ ?_
                                    rotate_left
                                    · simp only [Act.put, List.setIfInBounds_toArray, List.set_cons_zero, List.set_cons_succ, i64_w, i32_w]
                                      rfl
                                    refine pure_ (i := 21) (N := some 141) (v := undef) (a' := ?_) #[true, true, true, true, true, true, true, true, true, true, true, true, true, true, true, true, true, true, true, true, true, true, false, false, false, false, false, false, false, false] rfl rfl (any_of HT_.out (by kernel_rfl)) (fun _ _ _ h => h) (Or.inr ⟨by rfl, rfl⟩) ?_ ?_
                                    rotate_left
                                    · simp only [Act.put, List.setIfInBounds_toArray, List.set_cons_zero, List.set_cons_succ, i64_w, i32_w]
                                      rfl
                                    refine pure_ (i := 22) (N := some 142) (v := undef) (a' := ?_) #[true, true, true, true, true, true, true, true, true, true, true, true, true, true, true, true, true, true, true, true, true, true, true, false, false, false, false, false, false, false] rfl rfl (any_of HT_.out (by kernel_rfl)) (fun _ _ _ h => h) (Or.inr ⟨by rfl, rfl⟩) ?_ ?_
                                    rotate_left
                                    · simp only [Act.put, List.setIfInBounds_toArray, List.set_cons_zero, List.set_cons_succ, i64_w, i32_w]
                                      rfl
                                    refine pure_ (i := 23) (N := some 143) (v := undef) (a' := ?_) #[true, true, true, true, true, true, true, true, true, true, true, true, true, true, true, true, true, true, true, true, true, true, true, true, false, false, false, false, false, false] rfl rfl (any_of HT_.out (by kernel_rfl)) (fun _ _ _ h => h) (Or.inr ⟨by rfl, rfl⟩) ?_ ?_
                                    rotate_left
                                    · simp only [Act.put, List.setIfInBounds_toArray, List.set_cons_zero, List.set_cons_succ, i64_w, i32_w]
                                      rfl
                                    refine pure_ (i := 24) (N := some 144) (v := undef) (a' := ?_) #[true, true, true, true, true, true, true, true, true, true, true, true, true, true, true, true, true, true, true, true, true, true, true, true, true, false, false, false, false, false] rfl rfl (any_of HT_.out (by kernel_rfl)) (fun _ _ _ h => h) (Or.inr ⟨by rfl, rfl⟩) ?_ ?_
                                    rotate_left
                                    · simp only [Act.put, List.setIfInBounds_toArray, List.set_cons_zero, List.set_cons_succ, i64_w, i32_w]
                                      rfl
                                    refine pure_ (i := 25) (N := some 145) (v := undef) (a' := ?_) #[true, true, true, true, true, true, true, true, true, true, true, true, true, true, true, true, true, true, true, true, true, true, true, true, true, true, false, false, false, false] rfl rfl (any_of HT_.out (by kernel_rfl)) (fun _ _ _ h => h) (Or.inr ⟨by rfl, rfl⟩) ?_ ?_
                                    rotate_left
                                    · simp only [Act.put, List.setIfInBounds_toArray, List.set_cons_zero, List.set_cons_succ, i64_w, i32_w]
                                      rfl
                                    refine pure_ (i := 26) (N := some 146) (v := undef) (a' := ?_) #[true, true, true, true, true, true, true, true, true, true, true, true, true, true, true, true, true, true, true, true, true, true, true, true, true, true, true, false, false, false] rfl rfl (any_of HT_.out (by kernel_rfl)) (fun _ _ _ h => h) (Or.inr ⟨by rfl, rfl⟩) ?_ ?_
                                    rotate_left
                                    · simp only [Act.put, List.setIfInBounds_toArray, List.set_cons_zero, List.set_cons_succ, i64_w, i32_w]
                                      rfl
                                    refine pure_ (i := 27) (N := some 147) (v := undef) (a' := ?_) #[true, true, true, true, true, true, true, true, true, true, true, true, true, true, true, true, true, true, true, true, true, true, true, true, true, true, true, true, false, false] rfl rfl (any_of HT_.out (by kernel_rfl)) (fun _ _ _ h => h) (Or.inr ⟨by rfl, rfl⟩) ?_ ?_
                                    rotate_left
                                    · simp only [Act.put, List.setIfInBounds_toArray, List.set_cons_zero, List.set_cons_succ, i64_w, i32_w]
                                      rfl
                                    refine pure_ (i := 28) (N := some 148) (v := ?_) (a' := ?_) #[true, true, true, true, true, true, true, true, true, true, true, true, true, true, true, true, true, true, true, true, true, true, true, true, true, true, true, true, true, false] rfl rfl (any_of HT_.out (by kernel_rfl)) (fun _ _ _ h => h) (Or.inl ⟨by rfl, ?_⟩) ?_ ?_
                                    rotate_left
                                    · intro w'
                                      go_simp
                                      with_reducible rfl
                                    rotate_left
                                    · simp only [Act.put, List.setIfInBounds_toArray, List.set_cons_zero, List.set_cons_succ, i64_w, i32_w]
                                      rfl
                                    refine pure_ (i := 29) (N := some 8) (v := ?_) (a' := ?_) #[true, true, true, true, true, true, true, true, true, true, true, true, true, true, true, true, true, true, true, true, true, true, true, true, true, true, true, true, true, true] rfl rfl (any_of HT_.out (by kernel_rfl)) (fun _ _ _ h => h) (Or.inl ⟨by rfl, ?_⟩) ?_ ?_
                                    rotate_left
                                    · intro w'
                                      go_simp
                                      with_reducible rfl
                                    rotate_left
                                    · simp only [Act.put, List.setIfInBounds_toArray, List.set_cons_zero, List.set_cons_succ, i64_w, i32_w]
                                      rfl
                                    refine done_ (done_of HT_.out (by kernel_rfl)) ?_
                                    try go_wp2
                                    go_ret
                                    exact ⟨by first | rfl | (simp [errW_none, errW_some] <;> rfl) | (simp only [← hji61]; first | rfl | (simp [errW_none, errW_some] <;> rfl)) | (simp [*, errW_none, errW_some] <;> rfl), by repeat (first | (with_reducible first | exact HB.out | apply below_alloc | apply pw_below_drewN | apply below_drew1 | refine below_set ?_ GE105.out) | exact HB.out)⟩
                                · rw [if_neg c63] at H
                                  exact absurd H (by simp)
                              · rw [if_neg c62] at H
                                exact absurd H (by simp)
                            · rw [if_neg c60] at H
                              exact absurd H (by simp)
                  · rw [if_neg c22] at H
                    exact absurd H (by simp)
                · rw [if_neg c21] at H
                  exact absurd H (by simp)
end Go.Proofs.Ytcikhbamdbphaaa.PAll
