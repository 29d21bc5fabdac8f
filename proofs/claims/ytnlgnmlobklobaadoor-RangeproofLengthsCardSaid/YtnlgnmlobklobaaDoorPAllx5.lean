-- Written by myprint.py over the kit's print.py (a printed text of this session's own make).
import Derived.Test.YtnlgnmlobklobaaDoorPAllx0
import Derived.Test.YtnlgnmlobklobaaDoorPAllx2
import Derived.Test.YtnlgnmlobklobaaDoorPAllx3
import Derived.Test.YtnlgnmlobklobaaDoorPAllx4
-- HALF the printed indentation
namespace Go.Proofs.YtnlgnmlobklobaaDoor.PAll
open Go.Proofs.YtnlgnmlobklobaaDoor.Stub Go.Proofs.YtnlgnmlobklobaaDoor.Com Go.Proofs.YtnlgnmlobklobaaDoor.Hash
open Go.RowKit Go.Proofs.YtnlgnmlobklobaaDoorW.PrintWords Go.Proofs.YtnlgnmlobklobaaDoorW.PrintLast Go.Proofs.YtnlgnmlobklobaaDoorW.PrintMore
attribute [local go_sem] max2_int min2_int max_two min_two max_three min_three max_four min_four   -- for this text's walks alone
set_option linter.unusedVariables false
set_option linter.unusedSimpArgs false

/-! ### wageofficelaw27_head0: function 9 -/
mutual
def wageofficelaw27_head0.j0 : Nat → List (S25) → Bool → Option (Bool)
 | 0, _, _ => none
 | k + 1, x5, x7 => (rangeproof_Prove.f k 8 7 3 (⟨#[120]⟩ : ByteArray)).bind fun bt173 => (if x7 = true then (wageofficelaw27_head0.j1 k x5 (bt173.2 != 3)) else (wageofficelaw27_head0.j1 k x5 true))
def wageofficelaw27_head0.j1 : Nat → List (S25) → Bool → Option (Bool)
 | 0, _, _ => none
 | k + 1, x5, x66 => if x66 = true then (some false) else (if 0 < (x5.length : Int) then ((rangeproof_Extract.f ((rd_T25 x5 0).f0) ((rd_T25 x5 0).f1.f0) ((rd_T25 x5 0).f1.f1) ((rd_T25 x5 0).f2.f0) ((rd_T25 x5 0).f2.f1) ((rd_T25 x5 0).f3.f0) ((rd_T25 x5 0).f3.f1) ((rd_T25 x5 0).f0) ((rd_T25 x5 0).f1.f0) ((rd_T25 x5 0).f1.f1) ((rd_T25 x5 0).f2.f0) ((rd_T25 x5 0).f2.f1) ((rd_T25 x5 0).f3.f0) ((rd_T25 x5 0).f3.f1)).bind fun bt179 => (if bt179.2.2 = true then (some false) else ((wageofficelaw27_number.f k ((rd_T25 x5 0).f0)).bind fun t185 => (if 2 + t185.size ≤ 9223372036854775807 then (if 2 + t185.size + 1 ≤ 9223372036854775807 then ((wageofficelaw27_number.f k ((rd_T25 x5 0).f1.f0)).bind fun t187 => (if 2 + t185.size + 1 + t187.size ≤ 9223372036854775807 then (if 2 + t185.size + 1 + t187.size + 1 ≤ 9223372036854775807 then ((wageofficelaw27_number.f k ((rd_T25 x5 0).f1.f1)).bind fun t189 => (if 2 + t185.size + 1 + t187.size + 1 + t189.size ≤ 9223372036854775807 then ((digest_Sum.f ((((((⟨#[99, 32]⟩ : ByteArray) ++ t185) ++ (⟨#[32]⟩ : ByteArray)) ++ t187) ++ (⟨#[32]⟩ : ByteArray)) ++ t189)).bind fun t190 => (some ((Int.tmod (wrap64 (((rd_T25 x5 0).f2.f0) + ((rd_T25 x5 0).f2.f1))) 1073741789) == (wrap64 (Int.tmod t190 1073741789))))) else (none))) else (none)) else (none))) else (none)) else (none))))) else (none))
end
def wageofficelaw27_head0.f (k : Nat)  : Option (Bool) := (commitment_Commit.f 5 7).bind fun bt162 => ((commitment_Commit.f 4 7).bind fun bt164 => ((rangeproof_Prove.f k 5 7 3 (⟨#[120]⟩ : ByteArray)).bind fun bt166 => (if bt162.2 = 0 then (if bt164.2 = 0 then (if bt166.2 = 0 then (if (bt166.1.length : Int) = 3 then ((rangeproof_Verify.f k bt162.1 3 bt166.1).bind fun t170 => (if t170 = true then ((rangeproof_Verify.f k bt164.1 3 bt166.1).bind fun t171 => (if t171 = true then (wageofficelaw27_head0.j0 k bt166.1 false) else ((rangeproof_Verify.f k bt162.1 4 bt166.1).bind fun t172 => (wageofficelaw27_head0.j0 k bt166.1 (!t172))))) else (wageofficelaw27_head0.j0 k bt166.1 false))) else (wageofficelaw27_head0.j0 k bt166.1 false)) else (wageofficelaw27_head0.j0 k bt166.1 false)) else (wageofficelaw27_head0.j0 k bt166.1 false)) else (wageofficelaw27_head0.j0 k bt166.1 false))))
theorem wageofficelaw27_head0.mono_l : ∀ k, (∀ y0 y1, LeO (wageofficelaw27_head0.j0 k y0 y1) (wageofficelaw27_head0.j0 (k + 1) y0 y1)) ∧ (∀ y0 y1, LeO (wageofficelaw27_head0.j1 k y0 y1) (wageofficelaw27_head0.j1 (k + 1) y0 y1))
 | 0 => ⟨fun _ _ r h => by simp [wageofficelaw27_head0.j0] at h, fun _ _ r h => by simp [wageofficelaw27_head0.j1] at h⟩
 | k + 1 => by
  obtain ⟨ih0, ih1⟩ := wageofficelaw27_head0.mono_l k
  refine ⟨?_, ?_⟩
  ·intro y0 y1
   unfold wageofficelaw27_head0.j0
   repeat' first
   | (with_reducible exact ih0 _ _)
   | (with_reducible exact ih1 _ _)
   | (with_reducible exact rangeproof_Prove.mono _ _ _ _ _)
   | (with_reducible exact rangeproof_Verify.mono _ _ _ _)
   | (with_reducible exact wageofficelaw27_number.mono _ _)
   | (with_reducible exact LeO.refl _)
   | (with_reducible exact LeO.none _)
   | (with_reducible refine LeO.ite ?_ ?_)
   | (with_reducible refine LeO.bind ?_ (fun _ => ?_))
   | exact ih0 _ _
   | exact ih1 _ _
   | exact rangeproof_Prove.mono _ _ _ _ _
   | exact rangeproof_Verify.mono _ _ _ _
   | exact wageofficelaw27_number.mono _ _
   | exact LeO.none _
   | refine LeO.ite ?_ ?_
   | refine LeO.bind ?_ (fun _ => ?_)
  ·intro y0 y1
   unfold wageofficelaw27_head0.j1
   repeat' first
   | (with_reducible exact ih0 _ _)
   | (with_reducible exact ih1 _ _)
   | (with_reducible exact rangeproof_Prove.mono _ _ _ _ _)
   | (with_reducible exact rangeproof_Verify.mono _ _ _ _)
   | (with_reducible exact wageofficelaw27_number.mono _ _)
   | (with_reducible exact LeO.refl _)
   | (with_reducible exact LeO.none _)
   | (with_reducible refine LeO.ite ?_ ?_)
   | (with_reducible refine LeO.bind ?_ (fun _ => ?_))
   | exact ih0 _ _
   | exact ih1 _ _
   | exact rangeproof_Prove.mono _ _ _ _ _
   | exact rangeproof_Verify.mono _ _ _ _
   | exact wageofficelaw27_number.mono _ _
   | exact LeO.none _
   | refine LeO.ite ?_ ?_
   | refine LeO.bind ?_ (fun _ => ?_)
theorem wageofficelaw27_head0.mono : ∀ k, LeO (wageofficelaw27_head0.f k ) (wageofficelaw27_head0.f (k + 1) ) := by
 intro  k
 obtain ⟨ih0, ih1⟩ := wageofficelaw27_head0.mono_l k
 unfold wageofficelaw27_head0.f
 repeat' first
   | (with_reducible exact ih0 _ _)
   | (with_reducible exact ih1 _ _)
   | (with_reducible exact rangeproof_Prove.mono _ _ _ _ _)
   | (with_reducible exact rangeproof_Verify.mono _ _ _ _)
   | (with_reducible exact wageofficelaw27_number.mono _ _)
   | (with_reducible exact LeO.refl _)
   | (with_reducible exact LeO.none _)
   | (with_reducible refine LeO.ite ?_ ?_)
   | (with_reducible refine LeO.bind ?_ (fun _ => ?_))
   | exact ih0 _ _
   | exact ih1 _ _
   | exact rangeproof_Prove.mono _ _ _ _ _
   | exact rangeproof_Verify.mono _ _ _ _
   | exact wageofficelaw27_number.mono _ _
   | exact LeO.none _
   | refine LeO.ite ?_ ?_
   | refine LeO.bind ?_ (fun _ => ?_)
def wageofficelaw27_head0.T8 : Bool × List (List Nat × List Nat) := (true, [([], []), ([0], [0]), ([1], [1]), ([], []), ([3], [3]), ([4], [4]), ([2, 5], [2, 5]), ([6], [6]), ([7], [7]), ([7], [7]), ([7], [7]), ([8, 6, 0, 1, 2, 3, 4, 5, 6, 7, 8], [8]), ([9, 11, 0, 1, 2, 3, 4, 5, 6, 7, 8, 9, 11], [9]), ([10, 12, 0, 1, 2, 3, 4, 5, 6, 7, 8, 9, 10, 11, 12], [10])])
def wageofficelaw27_head0.B8 : List Nat := [0, 1, 3, 0, 8, 24, 63, 127, 255, 255, 255, 511, 3071, 8191]
theorem wageofficelaw27_head0.tab8 : rtab .any (opsOf Tryd.f9 8) = wageofficelaw27_head0.T8 := by kernel_rfl
theorem wageofficelaw27_head0.bits8 : waitsOk wageofficelaw27_head0.T8.2 wageofficelaw27_head0.B8 = true := by kernel_rfl
def wageofficelaw27_head0.T9 : Bool × List (List Nat × List Nat) := (true, [([], []), ([0], [0]), ([1], [1]), ([2], [2]), ([3, 2], [2, 3]), ([4, 2], [2, 4]), ([5, 2], [2, 5]), ([6, 2], [2, 6]), ([2], [2]), ([8, 2], [2, 8]), ([9, 2], [2, 9]), ([10, 2], [2, 10]), ([11, 2], [2, 11]), ([7, 12, 2], [2, 7, 12]), ([13, 2], [2, 13]), ([2], [2]), ([15, 2], [2, 15]), ([16, 2], [2, 16]), ([17, 2], [2, 17]), ([18, 2, 2], [2, 18]), ([19, 2], [2, 19]), ([20, 2], [2, 20]), ([2], [2]), ([22, 2], [2, 22]), ([23, 2], [2, 23]), ([24, 2], [2, 24]), ([25, 2], [2, 25]), ([26, 19, 2], [2, 26]), ([21, 27, 2], [2, 21, 27]), ([28, 2], [2, 28]), ([2], [2]), ([30, 2], [2, 30]), ([31, 2], [2, 31]), ([32, 2], [2, 32]), ([33, 2], [2, 33]), ([34, 27, 2], [2, 34]), ([29, 35, 2], [2, 29, 35]), ([36, 35, 2], [2, 36]), ([37, 2], [2, 37]), ([38, 2], [2, 38]), ([14, 39, 2], [2, 14, 39]), ([2, 40], [2, 40]), ([41, 37, 0, 1, 2, 3, 4, 5, 6, 7, 8, 9, 10, 11, 12, 13, 14, 15, 16, 17, 18, 19, 20, 21, 22, 23, 24, 25, 26, 27, 28, 29, 30, 31, 32, 33, 34, 35, 36, 37, 38, 39, 40, 41], [41])])
def wageofficelaw27_head0.B9 : List Nat := [0, 1, 3, 7, 15, 31, 63, 127, 7, 263, 775, 1799, 3847, 8191, 16383, 7, 32775, 98311, 229383, 491527, 1015815, 2064391, 7, 4194311, 12582919, 29360135, 62914567, 131039239, 268402695, 536838151, 7, 1073741831, 3221225479, 7516192775, 16106127367, 33551253511, 68719443975, 137438920711, 274877874183, 549755781127, 1099511627775, 2199023255551, 4398046511103]
theorem wageofficelaw27_head0.tab9 : rtab .any (opsOf Tryd.f9 9) = wageofficelaw27_head0.T9 := by kernel_rfl
theorem wageofficelaw27_head0.bits9 : waitsOk wageofficelaw27_head0.T9.2 wageofficelaw27_head0.B9 = true := by kernel_rfl
set_option maxHeartbeats 8000000 in
set_option maxRecDepth 100000 in
theorem wageofficelaw27_head0.calls (k : Nat)  (r : Bool) (w : World) (hRT0 : r = true) (h : wageofficelaw27_head0.f k  = some r) (hTGen0 : TabGen w) (hTTen0 : TabTen w) :
  Calls Tryd.prog 9 #[] w fun e w' => e = .returned (.bool r) ∧ Below w.heap.size w w' := by
 have hTGen := Aside0.mk hTGen0
 clear hTGen0
 have hTTen := Aside0.mk hTTen0
 clear hTTen0
 have hu25 := Tryd.underlying25
 have HB := Aside0.mk (Below.refl w.heap.size w)
 have H : ((commitment_Commit.f 5 7).bind fun bt162 => ((commitment_Commit.f 4 7).bind fun bt164 => ((rangeproof_Prove.f k 5 7 3 (⟨#[120]⟩ : ByteArray)).bind fun bt166 => (if bt162.2 = 0 then (if bt164.2 = 0 then (if bt166.2 = 0 then (if (bt166.1.length : Int) = 3 then ((rangeproof_Verify.f k bt162.1 3 bt166.1).bind fun t170 => (if t170 = true then ((rangeproof_Verify.f k bt164.1 3 bt166.1).bind fun t171 => (if t171 = true then (wageofficelaw27_head0.j0 k bt166.1 false) else ((rangeproof_Verify.f k bt162.1 4 bt166.1).bind fun t172 => (wageofficelaw27_head0.j0 k bt166.1 (!t172))))) else (wageofficelaw27_head0.j0 k bt166.1 false))) else (wageofficelaw27_head0.j0 k bt166.1 false)) else (wageofficelaw27_head0.j0 k bt166.1 false)) else (wageofficelaw27_head0.j0 k bt166.1 false)) else (wageofficelaw27_head0.j0 k bt166.1 false))))) = some r := h
 clear h
 have hRT := Aside0.mk hRT0
 clear hRT0
 replace H := Option.bind_eq_some_iff.mp H
 obtain ⟨⟨t162, t163⟩, A10, H⟩ := H
 replace H : ((commitment_Commit.f 4 7).bind fun bt164 => ((rangeproof_Prove.f k 5 7 3 (⟨#[120]⟩ : ByteArray)).bind fun bt166 => (if t163 = 0 then (if bt164.2 = 0 then (if bt166.2 = 0 then (if (bt166.1.length : Int) = 3 then ((rangeproof_Verify.f k t162 3 bt166.1).bind fun t170 => (if t170 = true then ((rangeproof_Verify.f k bt164.1 3 bt166.1).bind fun t171 => (if t171 = true then (wageofficelaw27_head0.j0 k bt166.1 false) else ((rangeproof_Verify.f k t162 4 bt166.1).bind fun t172 => (wageofficelaw27_head0.j0 k bt166.1 (!t172))))) else (wageofficelaw27_head0.j0 k bt166.1 false))) else (wageofficelaw27_head0.j0 k bt166.1 false)) else (wageofficelaw27_head0.j0 k bt166.1 false)) else (wageofficelaw27_head0.j0 k bt166.1 false)) else (wageofficelaw27_head0.j0 k bt166.1 false)))) = some r := H
 have A1 := Aside0.mk A10
 clear A10
 replace H := Option.bind_eq_some_iff.mp H
 obtain ⟨⟨t164, t165⟩, A20, H⟩ := H
 replace H : ((rangeproof_Prove.f k 5 7 3 (⟨#[120]⟩ : ByteArray)).bind fun bt166 => (if t163 = 0 then (if t165 = 0 then (if bt166.2 = 0 then (if (bt166.1.length : Int) = 3 then ((rangeproof_Verify.f k t162 3 bt166.1).bind fun t170 => (if t170 = true then ((rangeproof_Verify.f k t164 3 bt166.1).bind fun t171 => (if t171 = true then (wageofficelaw27_head0.j0 k bt166.1 false) else ((rangeproof_Verify.f k t162 4 bt166.1).bind fun t172 => (wageofficelaw27_head0.j0 k bt166.1 (!t172))))) else (wageofficelaw27_head0.j0 k bt166.1 false))) else (wageofficelaw27_head0.j0 k bt166.1 false)) else (wageofficelaw27_head0.j0 k bt166.1 false)) else (wageofficelaw27_head0.j0 k bt166.1 false)) else (wageofficelaw27_head0.j0 k bt166.1 false))) = some r := H
 have A2 := Aside0.mk A20
 clear A20
 replace H := Option.bind_eq_some_iff.mp H
 obtain ⟨⟨t166, t167⟩, A30, H⟩ := H
 replace H : (if t163 = 0 then (if t165 = 0 then (if t167 = 0 then (if (t166.length : Int) = 3 then ((rangeproof_Verify.f k t162 3 t166).bind fun t170 => (if t170 = true then ((rangeproof_Verify.f k t164 3 t166).bind fun t171 => (if t171 = true then (wageofficelaw27_head0.j0 k t166 false) else ((rangeproof_Verify.f k t162 4 t166).bind fun t172 => (wageofficelaw27_head0.j0 k t166 (!t172))))) else (wageofficelaw27_head0.j0 k t166 false))) else (wageofficelaw27_head0.j0 k t166 false)) else (wageofficelaw27_head0.j0 k t166 false)) else (wageofficelaw27_head0.j0 k t166 false)) else (wageofficelaw27_head0.j0 k t166 false)) = some r := H
 have A3 := Aside0.mk A30
 clear A30
 have HC4 := Aside0.mk H
 clear H
 go_enter Tryd.func9, Tryd.ntmps9
 go_upto_region 4 with (first | ((with_reducible refine gate_callee (f := 17) rfl ?_); refine goesL_ (some 14) rfl rfl Tryd.func17 (by kernel_rfl) rfl #[.int .i64 5, .int .i64 7] rfl (by (try simp only [List.map_toArray, List.map_cons, List.map_nil]); first | done | rfl | (simp only [List.length_drop, List.length_take]; rfl)) ?_; (with_reducible refine (commitment_Commit.calls 5 7 t162 t163 _ A1.out (TabGen.below hTGen.out (by repeat (first | exact HB.out | exact Below.refl _ _ | apply below_alloc | apply pw_below_drewN | apply below_drew1 | apply below_drew)))).mono ?_); rintro e w5 ⟨rfl, hb⟩; refine ⟨_, rfl, ?_⟩; have n0_ := Aside0.mk (below_step (by repeat (first | (with_reducible first | exact HB.out | apply below_alloc | apply pw_below_drewN | apply below_drew1) | exact HB.out)) hb); clear HB; have HB := n0_; clear n0_; (try clear hb); (try clear hb2); (try clear hk); (try clear hi)) | ((with_reducible refine gate_callee (f := 17) rfl ?_); refine goesL_ (some 18) rfl rfl Tryd.func17 (by kernel_rfl) rfl #[.int .i64 4, .int .i64 7] rfl (by (try simp only [List.map_toArray, List.map_cons, List.map_nil]); first | done | rfl | (simp only [List.length_drop, List.length_take]; rfl)) ?_; (with_reducible refine (commitment_Commit.calls 4 7 t164 t165 _ A2.out (TabGen.below hTGen.out (by repeat (first | exact HB.out | exact Below.refl _ _ | apply below_alloc | apply pw_below_drewN | apply below_drew1 | apply below_drew)))).mono ?_); rintro e w6 ⟨rfl, hb⟩; refine ⟨_, rfl, ?_⟩; have n0_ := Aside0.mk (below_step (by repeat (first | (with_reducible first | exact HB.out | apply below_alloc | apply pw_below_drewN | apply below_drew1) | exact HB.out)) hb); clear HB; have HB := n0_; clear n0_; (try clear hb); (try clear hb2); (try clear hk); (try clear hi)) | ((with_reducible refine gate_callee (f := 10) rfl ?_); refine goesL_ (some 22) rfl rfl Tryd.func10 (by kernel_rfl) rfl #[.int .i64 5, .int .i64 7, .int .i64 3, .string (⟨#[120]⟩ : ByteArray)] rfl (by (try simp only [List.map_toArray, List.map_cons, List.map_nil]); first | done | rfl | (simp only [List.length_drop, List.length_take]; rfl)) ?_; (with_reducible refine (rangeproof_Prove.calls k 5 7 3 (⟨#[120]⟩ : ByteArray) t166 t167 _ A3.out (TabGen.below hTGen.out (by repeat (first | exact HB.out | exact Below.refl _ _ | apply below_alloc | apply pw_below_drewN | apply below_drew1 | apply below_drew))) (TabTen.below hTTen.out (by repeat (first | exact HB.out | exact Below.refl _ _ | apply below_alloc | apply pw_below_drewN | apply below_drew1 | apply below_drew)))).mono ?_); rintro e w7 ⟨v168, rfl, ho0, hb⟩; refine ⟨_, rfl, ?_⟩; have n0_ := Aside0.mk (Kd.R_lower ho0 (below_size (by repeat (first | (with_reducible first | exact HB.out | apply below_alloc | apply pw_below_drewN | apply below_drew1) | exact HB.out)))); have n1_ := Aside0.mk (below_step (by repeat (first | (with_reducible first | exact HB.out | apply below_alloc | apply pw_below_drewN | apply below_drew1) | exact HB.out)) hb); clear HB; have HO169 := n0_; have HB := n1_; clear n0_ n1_; (try clear hb); (try clear hb2); (try clear hk); (try clear hi); (try clear ho0)))
 (try simp only [Act.put, List.setIfInBounds_toArray, List.set_cons_zero, List.set_cons_succ])
 go_cut [7] (fun v7 wc => ∃ (kq : Nat) (x7_3 : Bool), v7 = .bool x7_3 ∧ Aside0 (wageofficelaw27_head0.j0 kq t166 x7_3 = some r) ∧ Aside0 (kq ≤ k) ∧ Aside0 (Kd.R k25 25 wc w.heap.size (fun _ => True) v168 t166) ∧ Aside0 (Below w.heap.size w wc))
 case first =>
  have H := HC4.out
  clear HC4
  by_cases c8 : t163 = 0
  ·rw [if_pos c8] at H
   have c8b0 : (t163 == 0) = true := beq_iff_eq.mpr c8
   have c8b1 : (t163 != 0) = false := bne_eq_false_iff_eq.mpr c8
   clear c8
   (first | rw [c8b0] | (simp only [i64_w, i32_w]; rw [c8b0]) | skip)
   by_cases c9 : t165 = 0
   ·rw [if_pos c9] at H
    have c9b0 : (t165 == 0) = true := beq_iff_eq.mpr c9
    have c9b1 : (t165 != 0) = false := bne_eq_false_iff_eq.mpr c9
    clear c9
    by_cases c10 : t167 = 0
    ·rw [if_pos c10] at H
     have c10b0 : (t167 == 0) = true := beq_iff_eq.mpr c10
     have c10b1 : (t167 != 0) = false := bne_eq_false_iff_eq.mpr c10
     clear c10
     by_cases c11 : (t166.length : Int) = 3
     ·rw [if_pos c11] at H
      have c11b0 : ((t166.length : Int) == 3) = true := beq_iff_eq.mpr c11
      have c11b1 : ((t166.length : Int) != 3) = false := bne_eq_false_iff_eq.mpr c11
      clear c11
      replace H := Option.bind_eq_some_iff.mp H
      obtain ⟨t170, A120, H⟩ := H
      replace H : (if t170 = true then ((rangeproof_Verify.f k t164 3 t166).bind fun t171 => (if t171 = true then (wageofficelaw27_head0.j0 k t166 false) else ((rangeproof_Verify.f k t162 4 t166).bind fun t172 => (wageofficelaw27_head0.j0 k t166 (!t172))))) else (wageofficelaw27_head0.j0 k t166 false)) = some r := H
      have A12 := Aside0.mk A120
      clear A120
      by_cases c13 : t170 = true
      ·subst c13
       have H1 : ((rangeproof_Verify.f k t164 3 t166).bind fun t171 => (if t171 = true then (wageofficelaw27_head0.j0 k t166 false) else ((rangeproof_Verify.f k t162 4 t166).bind fun t172 => (wageofficelaw27_head0.j0 k t166 (!t172))))) = some r := by rw [if_pos rfl] at H; exact H
       clear H
       have H := H1
       clear H1
       replace H := Option.bind_eq_some_iff.mp H
       obtain ⟨t171, A140, H⟩ := H
       replace H : (if t171 = true then (wageofficelaw27_head0.j0 k t166 false) else ((rangeproof_Verify.f k t162 4 t166).bind fun t172 => (wageofficelaw27_head0.j0 k t166 (!t172)))) = some r := H
       have A14 := Aside0.mk A140
       clear A140
       by_cases c15 : t171 = true
       ·subst c15
        have H1 : (wageofficelaw27_head0.j0 k t166 false) = some r := by rw [if_pos rfl] at H; exact H
        clear H
        have H := H1
        clear H1
        have H' := Aside0.mk H
        clear H
        obtain ⟨Ao16, co16, eo16⟩ := Kd.R_slice HO169.out
        subst eo16
        go_wp2_with (first | (go_at_call 15; (with_reducible refine (rangeproof_Verify.calls k t162 3 _ _ t166 true _ ?side1 ?side2 A12.out (TabTen.below hTTen.out (by repeat (first | exact HB.out | exact Below.refl _ _ | apply below_alloc | apply pw_below_drewN | apply below_drew1 | apply below_drew)))).mono ?_); (case side1 => repeat (first | exact (Kd.R_reads' HO169.out).2.2 | (with_reducible refine Kd.C_alloc ?_ _) | (with_reducible refine Kd.C_drewN ?_ _) | (with_reducible refine Kd.C_drew ?_))); (case side2 => exact (Kd.R_reads' HO169.out).2.1); rintro e w17 ⟨rfl, hb⟩; have n0_ := Aside0.mk (Kd.R_below (by (with_reducible repeat (first | apply Kd.R_alloc | apply Kd.R_drewN | apply Kd.R_drew)); exact HO169.out) hb); have n1_ := Aside0.mk (below_step (by repeat (first | (with_reducible first | exact HB.out | apply below_alloc | apply pw_below_drewN | apply below_drew1) | exact HB.out)) hb); clear HO169; clear HB; have HO169 := n0_; have HB := n1_; clear n0_ n1_; (try clear hb); (try clear hb2); (try clear hk); (try clear hi)) | (go_at_call 15; (with_reducible refine (rangeproof_Verify.calls k t164 3 _ _ t166 true _ ?side1 ?side2 A14.out (TabTen.below hTTen.out (by repeat (first | exact HB.out | exact Below.refl _ _ | apply below_alloc | apply pw_below_drewN | apply below_drew1 | apply below_drew)))).mono ?_); (case side1 => repeat (first | exact (Kd.R_reads' HO169.out).2.2 | (with_reducible refine Kd.C_alloc ?_ _) | (with_reducible refine Kd.C_drewN ?_ _) | (with_reducible refine Kd.C_drew ?_))); (case side2 => exact (Kd.R_reads' HO169.out).2.1); rintro e w18 ⟨rfl, hb⟩; have n0_ := Aside0.mk (Kd.R_below (by (with_reducible repeat (first | apply Kd.R_alloc | apply Kd.R_drewN | apply Kd.R_drew)); exact HO169.out) hb); have n1_ := Aside0.mk (below_step (by repeat (first | (with_reducible first | exact HB.out | apply below_alloc | apply pw_below_drewN | apply below_drew1) | exact HB.out)) hb); clear HO169; clear HB; have HO169 := n0_; have HB := n1_; clear n0_ n1_; (try clear hb); (try clear hb2); (try clear hk); (try clear hi)))
        go_meet
        case rel => exact ⟨_, (false), (by first | rfl | (simp; done) | (simp [*]; done)), H', ⟨by first | omega | exact Nat.le_refl _⟩, ⟨by (with_reducible repeat (first | apply Kd.R_alloc | apply Kd.R_drewN | apply Kd.R_drew)); exact HO169.out⟩, ⟨by repeat (first | (with_reducible first | exact HB.out | apply below_alloc | apply pw_below_drewN | apply below_drew1) | exact HB.out)⟩⟩
       ·replace c15 := Bool.eq_false_iff.mpr c15
        subst c15
        have H1 : ((rangeproof_Verify.f k t162 4 t166).bind fun t172 => (wageofficelaw27_head0.j0 k t166 (!t172))) = some r := by rw [if_neg (show ¬ (false = true) by decide)] at H; exact H
        clear H
        have H := H1
        clear H1
        replace H := Option.bind_eq_some_iff.mp H
        obtain ⟨t172, A190, H⟩ := H
        replace H : (wageofficelaw27_head0.j0 k t166 (!t172)) = some r := H
        have A19 := Aside0.mk A190
        clear A190
        have H' := Aside0.mk H
        clear H
        obtain ⟨Ao20, co20, eo20⟩ := Kd.R_slice HO169.out
        subst eo20
        go_wp2_with (first | (go_at_call 15; (with_reducible refine (rangeproof_Verify.calls k t162 3 _ _ t166 true _ ?side1 ?side2 A12.out (TabTen.below hTTen.out (by repeat (first | exact HB.out | exact Below.refl _ _ | apply below_alloc | apply pw_below_drewN | apply below_drew1 | apply below_drew)))).mono ?_); (case side1 => repeat (first | exact (Kd.R_reads' HO169.out).2.2 | (with_reducible refine Kd.C_alloc ?_ _) | (with_reducible refine Kd.C_drewN ?_ _) | (with_reducible refine Kd.C_drew ?_))); (case side2 => exact (Kd.R_reads' HO169.out).2.1); rintro e w21 ⟨rfl, hb⟩; have n0_ := Aside0.mk (Kd.R_below (by (with_reducible repeat (first | apply Kd.R_alloc | apply Kd.R_drewN | apply Kd.R_drew)); exact HO169.out) hb); have n1_ := Aside0.mk (below_step (by repeat (first | (with_reducible first | exact HB.out | apply below_alloc | apply pw_below_drewN | apply below_drew1) | exact HB.out)) hb); clear HO169; clear HB; have HO169 := n0_; have HB := n1_; clear n0_ n1_; (try clear hb); (try clear hb2); (try clear hk); (try clear hi)) | (go_at_call 15; (with_reducible refine (rangeproof_Verify.calls k t164 3 _ _ t166 false _ ?side1 ?side2 A14.out (TabTen.below hTTen.out (by repeat (first | exact HB.out | exact Below.refl _ _ | apply below_alloc | apply pw_below_drewN | apply below_drew1 | apply below_drew)))).mono ?_); (case side1 => repeat (first | exact (Kd.R_reads' HO169.out).2.2 | (with_reducible refine Kd.C_alloc ?_ _) | (with_reducible refine Kd.C_drewN ?_ _) | (with_reducible refine Kd.C_drew ?_))); (case side2 => exact (Kd.R_reads' HO169.out).2.1); rintro e w22 ⟨rfl, hb⟩; have n0_ := Aside0.mk (Kd.R_below (by (with_reducible repeat (first | apply Kd.R_alloc | apply Kd.R_drewN | apply Kd.R_drew)); exact HO169.out) hb); have n1_ := Aside0.mk (below_step (by repeat (first | (with_reducible first | exact HB.out | apply below_alloc | apply pw_below_drewN | apply below_drew1) | exact HB.out)) hb); clear HO169; clear HB; have HO169 := n0_; have HB := n1_; clear n0_ n1_; (try clear hb); (try clear hb2); (try clear hk); (try clear hi)) | (go_at_call 15; (with_reducible refine (rangeproof_Verify.calls k t162 4 _ _ t166 t172 _ ?side1 ?side2 A19.out (TabTen.below hTTen.out (by repeat (first | exact HB.out | exact Below.refl _ _ | apply below_alloc | apply pw_below_drewN | apply below_drew1 | apply below_drew)))).mono ?_); (case side1 => repeat (first | exact (Kd.R_reads' HO169.out).2.2 | (with_reducible refine Kd.C_alloc ?_ _) | (with_reducible refine Kd.C_drewN ?_ _) | (with_reducible refine Kd.C_drew ?_))); (case side2 => exact (Kd.R_reads' HO169.out).2.1); rintro e w23 ⟨rfl, hb⟩; have n0_ := Aside0.mk (Kd.R_below (by (with_reducible repeat (first | apply Kd.R_alloc | apply Kd.R_drewN | apply Kd.R_drew)); exact HO169.out) hb); have n1_ := Aside0.mk (below_step (by repeat (first | (with_reducible first | exact HB.out | apply below_alloc | apply pw_below_drewN | apply below_drew1) | exact HB.out)) hb); clear HO169; clear HB; have HO169 := n0_; have HB := n1_; clear n0_ n1_; (try clear hb); (try clear hb2); (try clear hk); (try clear hi)))
        go_meet
        case rel => exact ⟨_, (!t172), (by first | rfl | (simp; done) | (simp [*]; done)), H', ⟨by first | omega | exact Nat.le_refl _⟩, ⟨by (with_reducible repeat (first | apply Kd.R_alloc | apply Kd.R_drewN | apply Kd.R_drew)); exact HO169.out⟩, ⟨by repeat (first | (with_reducible first | exact HB.out | apply below_alloc | apply pw_below_drewN | apply below_drew1) | exact HB.out)⟩⟩
      ·replace c13 := Bool.eq_false_iff.mpr c13
       subst c13
       have H1 : (wageofficelaw27_head0.j0 k t166 false) = some r := by rw [if_neg (show ¬ (false = true) by decide)] at H; exact H
       clear H
       have H := H1
       clear H1
       have H' := Aside0.mk H
       clear H
       obtain ⟨Ao24, co24, eo24⟩ := Kd.R_slice HO169.out
       subst eo24
       go_wp2_with (first | (go_at_call 15; (with_reducible refine (rangeproof_Verify.calls k t162 3 _ _ t166 false _ ?side1 ?side2 A12.out (TabTen.below hTTen.out (by repeat (first | exact HB.out | exact Below.refl _ _ | apply below_alloc | apply pw_below_drewN | apply below_drew1 | apply below_drew)))).mono ?_); (case side1 => repeat (first | exact (Kd.R_reads' HO169.out).2.2 | (with_reducible refine Kd.C_alloc ?_ _) | (with_reducible refine Kd.C_drewN ?_ _) | (with_reducible refine Kd.C_drew ?_))); (case side2 => exact (Kd.R_reads' HO169.out).2.1); rintro e w25 ⟨rfl, hb⟩; have n0_ := Aside0.mk (Kd.R_below (by (with_reducible repeat (first | apply Kd.R_alloc | apply Kd.R_drewN | apply Kd.R_drew)); exact HO169.out) hb); have n1_ := Aside0.mk (below_step (by repeat (first | (with_reducible first | exact HB.out | apply below_alloc | apply pw_below_drewN | apply below_drew1) | exact HB.out)) hb); clear HO169; clear HB; have HO169 := n0_; have HB := n1_; clear n0_ n1_; (try clear hb); (try clear hb2); (try clear hk); (try clear hi)))
       go_meet
       case rel => exact ⟨_, (false), (by first | rfl | (simp; done) | (simp [*]; done)), H', ⟨by first | omega | exact Nat.le_refl _⟩, ⟨by (with_reducible repeat (first | apply Kd.R_alloc | apply Kd.R_drewN | apply Kd.R_drew)); exact HO169.out⟩, ⟨by repeat (first | (with_reducible first | exact HB.out | apply below_alloc | apply pw_below_drewN | apply below_drew1) | exact HB.out)⟩⟩
     ·rw [if_neg c11] at H
      have c11b0 : ((t166.length : Int) == 3) = false := beq_eq_false_iff_ne.mpr c11
      have c11b1 : ((t166.length : Int) != 3) = true := bne_iff_ne.mpr c11
      have H' := Aside0.mk H
      clear H
      obtain ⟨Ao26, co26, eo26⟩ := Kd.R_slice HO169.out
      subst eo26
      go_wp2
      go_meet
      case rel => exact ⟨_, (false), (by first | rfl | (simp; done) | (simp [*]; done)), H', ⟨by first | omega | exact Nat.le_refl _⟩, ⟨by (with_reducible repeat (first | apply Kd.R_alloc | apply Kd.R_drewN | apply Kd.R_drew)); exact HO169.out⟩, ⟨by repeat (first | (with_reducible first | exact HB.out | apply below_alloc | apply pw_below_drewN | apply below_drew1) | exact HB.out)⟩⟩
    ·rw [if_neg c10] at H
     have c10b0 : (t167 == 0) = false := beq_eq_false_iff_ne.mpr c10
     have c10b1 : (t167 != 0) = true := bne_iff_ne.mpr c10
     have H' := Aside0.mk H
     clear H
     go_wp2
     go_meet
     case rel => exact ⟨_, (false), (by first | rfl | (simp; done) | (simp [*]; done)), H', ⟨by first | omega | exact Nat.le_refl _⟩, ⟨by (with_reducible repeat (first | apply Kd.R_alloc | apply Kd.R_drewN | apply Kd.R_drew)); exact HO169.out⟩, ⟨by repeat (first | (with_reducible first | exact HB.out | apply below_alloc | apply pw_below_drewN | apply below_drew1) | exact HB.out)⟩⟩
   ·rw [if_neg c9] at H
    have c9b0 : (t165 == 0) = false := beq_eq_false_iff_ne.mpr c9
    have c9b1 : (t165 != 0) = true := bne_iff_ne.mpr c9
    have H' := Aside0.mk H
    clear H
    go_wp2
    go_meet
    case rel => exact ⟨_, (false), (by first | rfl | (simp; done) | (simp [*]; done)), H', ⟨by first | omega | exact Nat.le_refl _⟩, ⟨by (with_reducible repeat (first | apply Kd.R_alloc | apply Kd.R_drewN | apply Kd.R_drew)); exact HO169.out⟩, ⟨by repeat (first | (with_reducible first | exact HB.out | apply below_alloc | apply pw_below_drewN | apply below_drew1) | exact HB.out)⟩⟩
  ·rw [if_neg c8] at H
   have c8b0 : (t163 == 0) = false := beq_eq_false_iff_ne.mpr c8
   have c8b1 : (t163 != 0) = true := bne_iff_ne.mpr c8
   (first | rw [c8b0] | (simp only [i64_w, i32_w]; rw [c8b0]) | skip)
   have H' := Aside0.mk H
   clear H
   go_wp2
   go_meet
   case rel => exact ⟨_, (false), (by first | rfl | (simp; done) | (simp [*]; done)), H', ⟨by first | omega | exact Nat.le_refl _⟩, ⟨by (with_reducible repeat (first | apply Kd.R_alloc | apply Kd.R_drewN | apply Kd.R_drew)); exact HO169.out⟩, ⟨by repeat (first | (with_reducible first | exact HB.out | apply below_alloc | apply pw_below_drewN | apply below_drew1) | exact HB.out)⟩⟩
 case rest =>
  clear HC4
  try clear c1
  try clear p2
  try clear c8
  try clear c8b0
  try clear c8b1
  try clear c9
  try clear c9b0
  try clear c9b1
  try clear c10
  try clear c10b0
  try clear c10b1
  try clear c11
  try clear c11b0
  try clear c11b1
  try clear c13
  try clear c15
  try clear c17
  obtain ⟨kq, x7_3, rfl, HA, HJ3, HO_5, HB⟩ := hcut
  cases kq with
  | zero => exact absurd HA.out (by simp [wageofficelaw27_head0.j0])
  | succ kj3 =>
   have H := HA.out
   clear HA
   simp only [wageofficelaw27_head0.j0] at H
   replace H := Option.bind_eq_some_iff.mp H
   obtain ⟨⟨t173, t174⟩, A270, H⟩ := H
   replace H : (if x7_3 = true then (wageofficelaw27_head0.j1 kj3 t166 (t174 != 3)) else (wageofficelaw27_head0.j1 kj3 t166 true)) = some r := H
   have A27 := Aside0.mk A270
   clear A270
   have HC28 := Aside0.mk H
   clear H
   go_upto_region 6 with (first | ((with_reducible refine gate_callee (f := 10) rfl ?_); refine goesL_ (some 58) rfl rfl Tryd.func10 (by kernel_rfl) rfl #[.int .i64 8, .int .i64 7, .int .i64 3, .string (⟨#[120]⟩ : ByteArray)] rfl (by (try simp only [List.map_toArray, List.map_cons, List.map_nil]); first | done | rfl | (simp only [List.length_drop, List.length_take]; rfl)) ?_; (with_reducible refine (rangeproof_Prove.calls kj3 8 7 3 (⟨#[120]⟩ : ByteArray) t173 t174 _ A27.out (TabGen.below hTGen.out (by repeat (first | exact HB.out | exact Below.refl _ _ | apply below_alloc | apply pw_below_drewN | apply below_drew1 | apply below_drew))) (TabTen.below hTTen.out (by repeat (first | exact HB.out | exact Below.refl _ _ | apply below_alloc | apply pw_below_drewN | apply below_drew1 | apply below_drew)))).mono ?_); rintro e w29 ⟨v175, rfl, ho0, hb⟩; refine ⟨_, rfl, ?_⟩; have n0_ := Aside0.mk (Kd.R_elder' (by (with_reducible repeat (first | apply Kd.R_alloc | apply Kd.R_drewN | apply Kd.R_drew)); exact HO_5.out) (Kd.R_base ho0) hb); have n1_ := Aside0.mk (Kd.R_lower (Kd.R_new' ho0 (Kd.R_lt (by (with_reducible repeat (first | apply Kd.R_alloc | apply Kd.R_drewN | apply Kd.R_drew)); exact HO_5.out))) (below_size (by repeat (first | (with_reducible first | exact HB.out | apply below_alloc | apply pw_below_drewN | apply below_drew1) | exact HB.out)))); have n2_ := Aside0.mk (below_step (by repeat (first | (with_reducible first | exact HB.out | apply below_alloc | apply pw_below_drewN | apply below_drew1) | exact HB.out)) hb); clear HO_5; clear HB; have HO_5 := n0_; have HO176 := n1_; have HB := n2_; clear n0_ n1_ n2_; (try clear hb); (try clear hb2); (try clear hk); (try clear hi); (try clear ho0)))
   (try simp only [Act.put, List.setIfInBounds_toArray, List.set_cons_zero, List.set_cons_succ])
   go_cut [66] (fun v66 wc => ∃ (kq : Nat) (x66_27 : Bool), v66 = .bool x66_27 ∧ Aside0 (wageofficelaw27_head0.j1 kq t166 x66_27 = some r) ∧ Aside0 (kq ≤ kj3) ∧ Aside0 (Kd.R k25 25 wc w.heap.size (fun _ => True) v168 t166) ∧ Aside0 (Below w.heap.size w wc))
   case first =>
    have H := HC28.out
    clear HC28
    by_cases c30 : x7_3 = true
    ·subst c30
     have H1 : (wageofficelaw27_head0.j1 kj3 t166 (t174 != 3)) = some r := by rw [if_pos rfl] at H; exact H
     clear H
     have H := H1
     clear H1
     have H' := Aside0.mk H
     clear H
     go_wp2
     go_meet
     case rel => exact ⟨_, ((t174 != 3)), (by first | rfl | (simp; done) | (simp [*]; done)), H', ⟨by have := HJ3.out; first | omega | exact Nat.le_refl _⟩, ⟨by (with_reducible repeat (first | apply Kd.R_alloc | apply Kd.R_drewN | apply Kd.R_drew)); exact Kd.R_mono HO_5.out (fun _ hk => trivial)⟩, ⟨by repeat (first | (with_reducible first | exact HB.out | apply below_alloc | apply pw_below_drewN | apply below_drew1) | exact HB.out)⟩⟩
    ·replace c30 := Bool.eq_false_iff.mpr c30
     subst c30
     have H1 : (wageofficelaw27_head0.j1 kj3 t166 true) = some r := by rw [if_neg (show ¬ (false = true) by decide)] at H; exact H
     clear H
     have H := H1
     clear H1
     have H' := Aside0.mk H
     clear H
     go_wp2
     go_meet
     case rel => exact ⟨_, (true), (by first | rfl | (simp; done) | (simp [*]; done)), H', ⟨by have := HJ3.out; first | omega | exact Nat.le_refl _⟩, ⟨by (with_reducible repeat (first | apply Kd.R_alloc | apply Kd.R_drewN | apply Kd.R_drew)); exact Kd.R_mono HO_5.out (fun _ hk => trivial)⟩, ⟨by repeat (first | (with_reducible first | exact HB.out | apply below_alloc | apply pw_below_drewN | apply below_drew1) | exact HB.out)⟩⟩
   case rest =>
    clear HC28
    try clear c1
    try clear p2
    try clear c3
    try clear c8
    try clear c8b0
    try clear c8b1
    try clear c9
    try clear c9b0
    try clear c9b1
    try clear c10
    try clear c10b0
    try clear c10b1
    try clear c11
    try clear c11b0
    try clear c11b1
    try clear c13
    try clear c15
    try clear c17
    try clear c30
    try clear p2
    obtain ⟨kq, x66_27, rfl, HA, HJ27, HO_5, HB⟩ := hcut
    cases kq with
    | zero => exact absurd HA.out (by simp [wageofficelaw27_head0.j1])
    | succ kj27 =>
     have H := HA.out
     clear HA
     simp only [wageofficelaw27_head0.j1] at H
     by_cases c31 : x66_27 = true
     ·subst c31
      have H1 : (some false) = some r := by rw [if_pos rfl] at H; exact H
      clear H
      have H := H1
      clear H1
      exact absurd (H.trans (congrArg some hRT.out)) (by simp)
     ·replace c31 := Bool.eq_false_iff.mpr c31
      subst c31
      have H1 : (if 0 < (t166.length : Int) then ((rangeproof_Extract.f ((rd_T25 t166 0).f0) ((rd_T25 t166 0).f1.f0) ((rd_T25 t166 0).f1.f1) ((rd_T25 t166 0).f2.f0) ((rd_T25 t166 0).f2.f1) ((rd_T25 t166 0).f3.f0) ((rd_T25 t166 0).f3.f1) ((rd_T25 t166 0).f0) ((rd_T25 t166 0).f1.f0) ((rd_T25 t166 0).f1.f1) ((rd_T25 t166 0).f2.f0) ((rd_T25 t166 0).f2.f1) ((rd_T25 t166 0).f3.f0) ((rd_T25 t166 0).f3.f1)).bind fun bt179 => (if bt179.2.2 = true then (some false) else ((wageofficelaw27_number.f kj27 ((rd_T25 t166 0).f0)).bind fun t185 => (if 2 + t185.size ≤ 9223372036854775807 then (if 2 + t185.size + 1 ≤ 9223372036854775807 then ((wageofficelaw27_number.f kj27 ((rd_T25 t166 0).f1.f0)).bind fun t187 => (if 2 + t185.size + 1 + t187.size ≤ 9223372036854775807 then (if 2 + t185.size + 1 + t187.size + 1 ≤ 9223372036854775807 then ((wageofficelaw27_number.f kj27 ((rd_T25 t166 0).f1.f1)).bind fun t189 => (if 2 + t185.size + 1 + t187.size + 1 + t189.size ≤ 9223372036854775807 then ((digest_Sum.f ((((((⟨#[99, 32]⟩ : ByteArray) ++ t185) ++ (⟨#[32]⟩ : ByteArray)) ++ t187) ++ (⟨#[32]⟩ : ByteArray)) ++ t189)).bind fun t190 => (some ((Int.tmod (wrap64 (((rd_T25 t166 0).f2.f0) + ((rd_T25 t166 0).f2.f1))) 1073741789) == (wrap64 (Int.tmod t190 1073741789))))) else (none))) else (none)) else (none))) else (none)) else (none))))) else (none)) = some r := by rw [if_neg (show ¬ (false = true) by decide)] at H; exact H
      clear H
      have H := H1
      clear H1
      by_cases c32 : 0 < (t166.length : Int)
      ·rw [if_pos c32] at H
       have c32b0 : decide (0 < (t166.length : Int)) = true := decide_eq_true c32
       have c32b1 : decide (0 < t166.length) = true := decide_eq_true (by omega)
       clear c32
       replace H := Option.bind_eq_some_iff.mp H
       obtain ⟨⟨t179, t180, t181⟩, A330, H⟩ := H
       replace H : (if t181 = true then (some false) else ((wageofficelaw27_number.f kj27 ((rd_T25 t166 0).f0)).bind fun t185 => (if 2 + t185.size ≤ 9223372036854775807 then (if 2 + t185.size + 1 ≤ 9223372036854775807 then ((wageofficelaw27_number.f kj27 ((rd_T25 t166 0).f1.f0)).bind fun t187 => (if 2 + t185.size + 1 + t187.size ≤ 9223372036854775807 then (if 2 + t185.size + 1 + t187.size + 1 ≤ 9223372036854775807 then ((wageofficelaw27_number.f kj27 ((rd_T25 t166 0).f1.f1)).bind fun t189 => (if 2 + t185.size + 1 + t187.size + 1 + t189.size ≤ 9223372036854775807 then ((digest_Sum.f ((((((⟨#[99, 32]⟩ : ByteArray) ++ t185) ++ (⟨#[32]⟩ : ByteArray)) ++ t187) ++ (⟨#[32]⟩ : ByteArray)) ++ t189)).bind fun t190 => (some ((Int.tmod (wrap64 (((rd_T25 t166 0).f2.f0) + ((rd_T25 t166 0).f2.f1))) 1073741789) == (wrap64 (Int.tmod t190 1073741789))))) else (none))) else (none)) else (none))) else (none)) else (none)))) = some r := H
       have A33 := Aside0.mk A330
       clear A330
       by_cases c34 : t181 = true
       ·subst c34
        have H1 : (some false) = some r := by rw [if_pos rfl] at H; exact H
        clear H
        have H := H1
        clear H1
        exact absurd (H.trans (congrArg some hRT.out)) (by simp)
       ·replace c34 := Bool.eq_false_iff.mpr c34
        subst c34
        have H1 : ((wageofficelaw27_number.f kj27 ((rd_T25 t166 0).f0)).bind fun t185 => (if 2 + t185.size ≤ 9223372036854775807 then (if 2 + t185.size + 1 ≤ 9223372036854775807 then ((wageofficelaw27_number.f kj27 ((rd_T25 t166 0).f1.f0)).bind fun t187 => (if 2 + t185.size + 1 + t187.size ≤ 9223372036854775807 then (if 2 + t185.size + 1 + t187.size + 1 ≤ 9223372036854775807 then ((wageofficelaw27_number.f kj27 ((rd_T25 t166 0).f1.f1)).bind fun t189 => (if 2 + t185.size + 1 + t187.size + 1 + t189.size ≤ 9223372036854775807 then ((digest_Sum.f ((((((⟨#[99, 32]⟩ : ByteArray) ++ t185) ++ (⟨#[32]⟩ : ByteArray)) ++ t187) ++ (⟨#[32]⟩ : ByteArray)) ++ t189)).bind fun t190 => (some ((Int.tmod (wrap64 (((rd_T25 t166 0).f2.f0) + ((rd_T25 t166 0).f2.f1))) 1073741789) == (wrap64 (Int.tmod t190 1073741789))))) else (none))) else (none)) else (none))) else (none)) else (none))) = some r := by rw [if_neg (show ¬ (false = true) by decide)] at H; exact H
        clear H
        have H := H1
        clear H1
        replace H := Option.bind_eq_some_iff.mp H
        obtain ⟨t185, A350, H⟩ := H
        replace H : (if 2 + t185.size ≤ 9223372036854775807 then (if 2 + t185.size + 1 ≤ 9223372036854775807 then ((wageofficelaw27_number.f kj27 ((rd_T25 t166 0).f1.f0)).bind fun t187 => (if 2 + t185.size + 1 + t187.size ≤ 9223372036854775807 then (if 2 + t185.size + 1 + t187.size + 1 ≤ 9223372036854775807 then ((wageofficelaw27_number.f kj27 ((rd_T25 t166 0).f1.f1)).bind fun t189 => (if 2 + t185.size + 1 + t187.size + 1 + t189.size ≤ 9223372036854775807 then ((digest_Sum.f ((((((⟨#[99, 32]⟩ : ByteArray) ++ t185) ++ (⟨#[32]⟩ : ByteArray)) ++ t187) ++ (⟨#[32]⟩ : ByteArray)) ++ t189)).bind fun t190 => (some ((Int.tmod (wrap64 (((rd_T25 t166 0).f2.f0) + ((rd_T25 t166 0).f2.f1))) 1073741789) == (wrap64 (Int.tmod t190 1073741789))))) else (none))) else (none)) else (none))) else (none)) else (none)) = some r := H
        have A35 := Aside0.mk A350
        clear A350
        by_cases c36 : 2 + t185.size ≤ 9223372036854775807
        ·rw [if_pos c36] at H
         have c36b0 := eq_true c36
         have c36b1 : decide (2 + t185.size ≤ 9223372036854775807) = true := decide_eq_true c36
         try have c36b2 : (9223372036854775807 < 2 + t185.size) = False := eq_false (Nat.not_lt.2 c36)
         by_cases c37 : 2 + t185.size + 1 ≤ 9223372036854775807
         ·rw [if_pos c37] at H
          have c37b0 := eq_true c37
          have c37b1 : decide (2 + t185.size + 1 ≤ 9223372036854775807) = true := decide_eq_true c37
          try have c37b2 : (9223372036854775807 < 2 + t185.size + 1) = False := eq_false (Nat.not_lt.2 c37)
          replace H := Option.bind_eq_some_iff.mp H
          obtain ⟨t187, A380, H⟩ := H
          replace H : (if 2 + t185.size + 1 + t187.size ≤ 9223372036854775807 then (if 2 + t185.size + 1 + t187.size + 1 ≤ 9223372036854775807 then ((wageofficelaw27_number.f kj27 ((rd_T25 t166 0).f1.f1)).bind fun t189 => (if 2 + t185.size + 1 + t187.size + 1 + t189.size ≤ 9223372036854775807 then ((digest_Sum.f ((((((⟨#[99, 32]⟩ : ByteArray) ++ t185) ++ (⟨#[32]⟩ : ByteArray)) ++ t187) ++ (⟨#[32]⟩ : ByteArray)) ++ t189)).bind fun t190 => (some ((Int.tmod (wrap64 (((rd_T25 t166 0).f2.f0) + ((rd_T25 t166 0).f2.f1))) 1073741789) == (wrap64 (Int.tmod t190 1073741789))))) else (none))) else (none)) else (none)) = some r := H
          have A38 := Aside0.mk A380
          clear A380
          by_cases c39 : 2 + t185.size + 1 + t187.size ≤ 9223372036854775807
          ·rw [if_pos c39] at H
           have c39b0 := eq_true c39
           have c39b1 : decide (2 + t185.size + 1 + t187.size ≤ 9223372036854775807) = true := decide_eq_true c39
           try have c39b2 : (9223372036854775807 < 2 + t185.size + 1 + t187.size) = False := eq_false (Nat.not_lt.2 c39)
           by_cases c40 : 2 + t185.size + 1 + t187.size + 1 ≤ 9223372036854775807
           ·rw [if_pos c40] at H
            have c40b0 := eq_true c40
            have c40b1 : decide (2 + t185.size + 1 + t187.size + 1 ≤ 9223372036854775807) = true := decide_eq_true c40
            try have c40b2 : (9223372036854775807 < 2 + t185.size + 1 + t187.size + 1) = False := eq_false (Nat.not_lt.2 c40)
            replace H := Option.bind_eq_some_iff.mp H
            obtain ⟨t189, A410, H⟩ := H
            replace H : (if 2 + t185.size + 1 + t187.size + 1 + t189.size ≤ 9223372036854775807 then ((digest_Sum.f ((((((⟨#[99, 32]⟩ : ByteArray) ++ t185) ++ (⟨#[32]⟩ : ByteArray)) ++ t187) ++ (⟨#[32]⟩ : ByteArray)) ++ t189)).bind fun t190 => (some ((Int.tmod (wrap64 (((rd_T25 t166 0).f2.f0) + ((rd_T25 t166 0).f2.f1))) 1073741789) == (wrap64 (Int.tmod t190 1073741789))))) else (none)) = some r := H
            have A41 := Aside0.mk A410
            clear A410
            by_cases c42 : 2 + t185.size + 1 + t187.size + 1 + t189.size ≤ 9223372036854775807
            ·rw [if_pos c42] at H
             have c42b0 := eq_true c42
             have c42b1 : decide (2 + t185.size + 1 + t187.size + 1 + t189.size ≤ 9223372036854775807) = true := decide_eq_true c42
             try have c42b2 : (9223372036854775807 < 2 + t185.size + 1 + t187.size + 1 + t189.size) = False := eq_false (Nat.not_lt.2 c42)
             replace H := Option.bind_eq_some_iff.mp H
             obtain ⟨t190, A430, H⟩ := H
             replace H : (some ((Int.tmod (wrap64 (((rd_T25 t166 0).f2.f0) + ((rd_T25 t166 0).f2.f1))) 1073741789) == (wrap64 (Int.tmod t190 1073741789)))) = some r := H
             have A43 := Aside0.mk A430
             clear A430
             obtain rfl := Option.some.inj H
             try go_wp2
             have n0_ := Aside0.mk (Kd.R_drew HO_5.out)
             have n1_ := Aside0.mk (below_drew1 HB.out)
             clear HO_5
             clear HB
             have HO_5 := n0_
             have HB := n1_
             clear n0_ n1_
             obtain ⟨Ao45, co45, eo45⟩ := Kd.R_slice HO_5.out
             (first | subst eo45 | (injection eo45 with f1_ f2_ f3_; have f4_ := f1_.symm; have f5_ := f3_.symm; clear f1_ f2_ f3_; subst f4_; subst f5_))
             have p177 : 0 ≤ (0 : Int) := (by omega)
             have q177 : 0 < (t166.length : Int) := of_decide_eq_true (by first | (with_reducible assumption) | assumption)
             obtain ⟨ad177, e177, hx177_0, hx177_1, hx177_2, hx177_3, hx177_4, hx177_5, hx177_6⟩ := at_T25 (Kd.R_reads' HO_5.out).2.2 0 p177 q177
             cases e177
             have qi177 : (0 < t166.length) = True := eq_true (by omega)
             (try rw [show ((0 : Int)).toNat = 0 from rfl] at hx177_0)
             (try rw [show 0 * 7 = 0 from rfl] at hx177_0)
             (try rw [Addr.add_zero'] at hx177_0)
             (try rw [show ((0 : Int)).toNat = 0 from rfl] at hx177_1)
             (try rw [show 0 * 7 = 0 from rfl] at hx177_1)
             (try rw [Addr.add_zero'] at hx177_1)
             (try rw [show ((0 : Int)).toNat = 0 from rfl] at hx177_2)
             (try rw [show 0 * 7 = 0 from rfl] at hx177_2)
             (try rw [Addr.add_zero'] at hx177_2)
             (try rw [show ((0 : Int)).toNat = 0 from rfl] at hx177_3)
             (try rw [show 0 * 7 = 0 from rfl] at hx177_3)
             (try rw [Addr.add_zero'] at hx177_3)
             (try rw [show ((0 : Int)).toNat = 0 from rfl] at hx177_4)
             (try rw [show 0 * 7 = 0 from rfl] at hx177_4)
             (try rw [Addr.add_zero'] at hx177_4)
             (try rw [show ((0 : Int)).toNat = 0 from rfl] at hx177_5)
             (try rw [show 0 * 7 = 0 from rfl] at hx177_5)
             (try rw [Addr.add_zero'] at hx177_5)
             (try rw [show ((0 : Int)).toNat = 0 from rfl] at hx177_6)
             (try rw [show 0 * 7 = 0 from rfl] at hx177_6)
             (try rw [Addr.add_zero'] at hx177_6)
             replace p177 := eq_true p177
             replace q177 := eq_true q177
             have p178 : 0 ≤ (0 : Int) := (by omega)
             have q178 : 0 < (t166.length : Int) := of_decide_eq_true (by first | (with_reducible assumption) | assumption)
             obtain ⟨ad178, e178, hx178_0, hx178_1, hx178_2, hx178_3, hx178_4, hx178_5, hx178_6⟩ := at_T25 (Kd.R_reads' HO_5.out).2.2 0 p178 q178
             obtain rfl : ad177 = ad178 := (by injection e178)
             have qi178 : (0 < t166.length) = True := eq_true (by omega)
             (try rw [show ((0 : Int)).toNat = 0 from rfl] at hx178_0)
             (try rw [show 0 * 7 = 0 from rfl] at hx178_0)
             (try rw [Addr.add_zero'] at hx178_0)
             (try rw [show ((0 : Int)).toNat = 0 from rfl] at hx178_1)
             (try rw [show 0 * 7 = 0 from rfl] at hx178_1)
             (try rw [Addr.add_zero'] at hx178_1)
             (try rw [show ((0 : Int)).toNat = 0 from rfl] at hx178_2)
             (try rw [show 0 * 7 = 0 from rfl] at hx178_2)
             (try rw [Addr.add_zero'] at hx178_2)
             (try rw [show ((0 : Int)).toNat = 0 from rfl] at hx178_3)
             (try rw [show 0 * 7 = 0 from rfl] at hx178_3)
             (try rw [Addr.add_zero'] at hx178_3)
             (try rw [show ((0 : Int)).toNat = 0 from rfl] at hx178_4)
             (try rw [show 0 * 7 = 0 from rfl] at hx178_4)
             (try rw [Addr.add_zero'] at hx178_4)
             (try rw [show ((0 : Int)).toNat = 0 from rfl] at hx178_5)
             (try rw [show 0 * 7 = 0 from rfl] at hx178_5)
             (try rw [Addr.add_zero'] at hx178_5)
             (try rw [show ((0 : Int)).toNat = 0 from rfl] at hx178_6)
             (try rw [show 0 * 7 = 0 from rfl] at hx178_6)
             (try rw [Addr.add_zero'] at hx178_6)
             replace p178 := eq_true p178
             replace q178 := eq_true q178
             refine start_ (n := 14) (S := fun w' => w'.cell? ad177 = some (.int .i64 ((rd_T25 t166 0).f0)) ∧ w'.cell? ⟨ad177.block, ad177.off + 1, none⟩ = some (.int .i64 ((rd_T25 t166 0).f1.f0)) ∧ w'.cell? ⟨ad177.block, ad177.off + 2, none⟩ = some (.int .i64 ((rd_T25 t166 0).f1.f1)) ∧ w'.cell? ⟨ad177.block, ad177.off + 3, none⟩ = some (.int .i64 ((rd_T25 t166 0).f2.f0)) ∧ w'.cell? ⟨ad177.block, ad177.off + 4, none⟩ = some (.int .i64 ((rd_T25 t166 0).f2.f1)) ∧ w'.cell? ⟨ad177.block, ad177.off + 5, none⟩ = some (.int .i64 ((rd_T25 t166 0).f3.f0)) ∧ w'.cell? ⟨ad177.block, ad177.off + 6, none⟩ = some (.int .i64 ((rd_T25 t166 0).f3.f1)) ∧ w'.cell? ad177 = some (.int .i64 ((rd_T25 t166 0).f0)) ∧ w'.cell? ⟨ad177.block, ad177.off + 1, none⟩ = some (.int .i64 ((rd_T25 t166 0).f1.f0)) ∧ w'.cell? ⟨ad177.block, ad177.off + 2, none⟩ = some (.int .i64 ((rd_T25 t166 0).f1.f1)) ∧ w'.cell? ⟨ad177.block, ad177.off + 3, none⟩ = some (.int .i64 ((rd_T25 t166 0).f2.f0)) ∧ w'.cell? ⟨ad177.block, ad177.off + 4, none⟩ = some (.int .i64 ((rd_T25 t166 0).f2.f1)) ∧ w'.cell? ⟨ad177.block, ad177.off + 5, none⟩ = some (.int .i64 ((rd_T25 t166 0).f3.f0)) ∧ w'.cell? ⟨ad177.block, ad177.off + 6, none⟩ = some (.int .i64 ((rd_T25 t166 0).f3.f1))) (ds := []) #[false, false, false, false, false, false, false, false, false, false, false, false, false, false] (by kernel_rfl) rfl rfl ⟨hx177_0, hx177_1, hx177_2, hx177_3, hx177_4, hx177_5, hx177_6, hx178_0, hx178_1, hx178_2, hx178_3, hx178_4, hx178_5, hx178_6⟩ (fun hHeld => ?_); refine with_tabW wageofficelaw27_head0.tab8 wageofficelaw27_head0.bits8 (fun HT_ HW_ => ?_)
             generalize wc.drew = w44 at HO_5 HB hx177_0 hx177_1 hx177_2 hx177_3 hx177_4 hx177_5 hx177_6 hx178_0 hx178_1 hx178_2 hx178_3 hx178_4 hx178_5 hx178_6 hHeld ⊢
             refine pure_ (i := 0) (N := some 68) (v := ?_) (a' := ?_) #[true, false, false, false, false, false, false, false, false, false, false, false, false, false] rfl rfl (any_of HT_.out (by kernel_rfl)) (fun _ _ _ h => h) (Or.inl ⟨by rfl, ?_⟩) ?_ ?_
             rotate_left
             ·intro w'
              go_simp
              with_reducible rfl
             rotate_left
             ·simp only [Act.put, List.setIfInBounds_toArray, List.set_cons_zero, List.set_cons_succ, i64_w, i32_w]
              rfl
             refine pure_ (i := 1) (N := some 69) (v := ?_) (a' := ?_) #[true, true, false, false, false, false, false, false, false, false, false, false, false, false] rfl rfl (any_of HT_.out (by kernel_rfl)) (fun _ _ _ h => h) (Or.inl ⟨by rfl, ?_⟩) ?_ ?_
             rotate_left
             ·intro w'
              go_simp
              with_reducible rfl
             rotate_left
             ·simp only [Act.put, List.setIfInBounds_toArray, List.set_cons_zero, List.set_cons_succ, i64_w, i32_w]
              rfl
             refine pure_ (i := 3) (N := some 71) (v := ?_) (a' := ?_) #[true, true, false, true, false, false, false, false, false, false, false, false, false, false] rfl rfl (any_of HT_.out (by kernel_rfl)) (fun _ _ _ h => h) (Or.inl ⟨by rfl, ?_⟩) ?_ ?_
             rotate_left
             ·intro w'
              go_simp
              with_reducible rfl
             rotate_left
             ·simp only [Act.put, List.setIfInBounds_toArray, List.set_cons_zero, List.set_cons_succ, i64_w, i32_w]
              rfl
             refine pure_ (i := 4) (N := some 72) (v := ?_) (a' := ?_) #[true, true, false, true, true, false, false, false, false, false, false, false, false, false] rfl rfl (any_of HT_.out (by kernel_rfl)) (fun _ _ _ h => h) (Or.inl ⟨by rfl, ?_⟩) ?_ ?_
             rotate_left
             ·intro w'
              go_simp
              with_reducible rfl
             rotate_left
             ·simp only [Act.put, List.setIfInBounds_toArray, List.set_cons_zero, List.set_cons_succ, i64_w, i32_w]
              rfl
             refine take_ (i := 2) (N := some 70) (v := ?_) (a' := ?_) #[true, true, true, true, true, false, false, false, false, false, false, false, false, false] rfl rfl (take_ofW HT_.out HW_.out (by kernel_rfl)) (fun _ _ _ h => h) (Or.inl ⟨by rfl, ?_⟩) hHeld ?_ ?_
             rotate_left
             ·rintro w' ⟨s0, s1, s2, s3, s4, s5, s6, s7, s8, s9, s10, s11, s12, s13⟩
              go_simp
              with_reducible rfl
             rotate_left
             ·simp only [Act.put, List.setIfInBounds_toArray, List.set_cons_zero, List.set_cons_succ, i64_w, i32_w]
              rfl
             refine take_ (i := 5) (N := some 73) (v := ?_) (a' := ?_) #[true, true, true, true, true, true, false, false, false, false, false, false, false, false] rfl rfl (take_ofW HT_.out HW_.out (by kernel_rfl)) (fun _ _ _ h => h) (Or.inl ⟨by rfl, ?_⟩) hHeld ?_ ?_
             rotate_left
             ·rintro w' ⟨s0, s1, s2, s3, s4, s5, s6, s7, s8, s9, s10, s11, s12, s13⟩
              go_simp
              with_reducible rfl
             rotate_left
             ·simp only [Act.put, List.setIfInBounds_toArray, List.set_cons_zero, List.set_cons_succ, i64_w, i32_w]
              rfl
             refine one_ (i := 6) (N := some 74) #[true, true, true, true, true, true, true, false, false, false, false, false, false, false] rfl rfl (one_of HT_.out (by kernel_rfl)) (by decide) (fun K hK => ?_)
             refine goes_ Tryd.func12 (by kernel_rfl) rfl #[.agg #[.int .i64 ((rd_T25 t166 0).f0), .int .i64 ((rd_T25 t166 0).f1.f0), .int .i64 ((rd_T25 t166 0).f1.f1), .int .i64 ((rd_T25 t166 0).f2.f0), .int .i64 ((rd_T25 t166 0).f2.f1), .int .i64 ((rd_T25 t166 0).f3.f0), .int .i64 ((rd_T25 t166 0).f3.f1)], .agg #[.int .i64 ((rd_T25 t166 0).f0), .int .i64 ((rd_T25 t166 0).f1.f0), .int .i64 ((rd_T25 t166 0).f1.f1), .int .i64 ((rd_T25 t166 0).f2.f0), .int .i64 ((rd_T25 t166 0).f2.f1), .int .i64 ((rd_T25 t166 0).f3.f0), .int .i64 ((rd_T25 t166 0).f3.f1)]] (by rfl) rfl rfl (by (try simp only [List.map_toArray, List.map_cons, List.map_nil]); first | done | rfl | (simp only [List.length_drop, List.length_take]; rfl)) ?_
             with_reducible refine (rangeproof_Extract.calls ((rd_T25 t166 0).f0) ((rd_T25 t166 0).f1.f0) ((rd_T25 t166 0).f1.f1) ((rd_T25 t166 0).f2.f0) ((rd_T25 t166 0).f2.f1) ((rd_T25 t166 0).f3.f0) ((rd_T25 t166 0).f3.f1) ((rd_T25 t166 0).f0) ((rd_T25 t166 0).f1.f0) ((rd_T25 t166 0).f1.f1) ((rd_T25 t166 0).f2.f0) ((rd_T25 t166 0).f2.f1) ((rd_T25 t166 0).f3.f0) ((rd_T25 t166 0).f3.f1) t179 t180 false _ A33.out).mono ?_
             rintro e w46 ⟨rfl, hb⟩
             have HS0_ := (hb.cell (World.block_lt_of_cell? _ _ (hHeld.1))).trans (hHeld.1)
             have HS1_ := (hb.cell (World.block_lt_of_cell? _ _ (hHeld.2.1))).trans (hHeld.2.1)
             have HS2_ := (hb.cell (World.block_lt_of_cell? _ _ (hHeld.2.2.1))).trans (hHeld.2.2.1)
             have HS3_ := (hb.cell (World.block_lt_of_cell? _ _ (hHeld.2.2.2.1))).trans (hHeld.2.2.2.1)
             have HS4_ := (hb.cell (World.block_lt_of_cell? _ _ (hHeld.2.2.2.2.1))).trans (hHeld.2.2.2.2.1)
             have HS5_ := (hb.cell (World.block_lt_of_cell? _ _ (hHeld.2.2.2.2.2.1))).trans (hHeld.2.2.2.2.2.1)
             have HS6_ := (hb.cell (World.block_lt_of_cell? _ _ (hHeld.2.2.2.2.2.2.1))).trans (hHeld.2.2.2.2.2.2.1)
             have HS7_ := (hb.cell (World.block_lt_of_cell? _ _ (hHeld.2.2.2.2.2.2.2.1))).trans (hHeld.2.2.2.2.2.2.2.1)
             have HS8_ := (hb.cell (World.block_lt_of_cell? _ _ (hHeld.2.2.2.2.2.2.2.2.1))).trans (hHeld.2.2.2.2.2.2.2.2.1)
             have HS9_ := (hb.cell (World.block_lt_of_cell? _ _ (hHeld.2.2.2.2.2.2.2.2.2.1))).trans (hHeld.2.2.2.2.2.2.2.2.2.1)
             have HS10_ := (hb.cell (World.block_lt_of_cell? _ _ (hHeld.2.2.2.2.2.2.2.2.2.2.1))).trans (hHeld.2.2.2.2.2.2.2.2.2.2.1)
             have HS11_ := (hb.cell (World.block_lt_of_cell? _ _ (hHeld.2.2.2.2.2.2.2.2.2.2.2.1))).trans (hHeld.2.2.2.2.2.2.2.2.2.2.2.1)
             have HS12_ := (hb.cell (World.block_lt_of_cell? _ _ (hHeld.2.2.2.2.2.2.2.2.2.2.2.2.1))).trans (hHeld.2.2.2.2.2.2.2.2.2.2.2.2.1)
             have HS13_ := (hb.cell (World.block_lt_of_cell? _ _ (hHeld.2.2.2.2.2.2.2.2.2.2.2.2.2))).trans (hHeld.2.2.2.2.2.2.2.2.2.2.2.2.2)
             refine ⟨_, rfl, ?_⟩
             have n0_ := Aside0.mk (Kd.R_below (by (with_reducible repeat (first | apply Kd.R_alloc | apply Kd.R_drewN | apply Kd.R_drew)); exact HO_5.out) hb)
             have n1_ := Aside0.mk (below_step (by repeat (first | (with_reducible first | exact HB.out | apply below_alloc | apply pw_below_drewN | apply below_drew1) | exact HB.out)) hb)
             clear HO_5
             clear HB
             have HO_5 := n0_
             have HB := n1_
             clear n0_ n1_
             (try clear hb)
             (try clear hb2)
             (try clear hk)
             (try clear hi)
             refine hK.out _ _ ⟨HS0_, HS1_, HS2_, HS3_, HS4_, HS5_, HS6_, HS7_, HS8_, HS9_, HS10_, HS11_, HS12_, HS13_⟩ (fun hHeld => ?_)
             clear hK K
             refine norm_ (a' := ?_) ?_ ?_
             rotate_left
             ·show Act.put _ (some 74) _ = _
              simp only [Act.put, List.setIfInBounds_toArray, List.set_cons_zero, List.set_cons_succ, i64_w, i32_w]
              rfl
             refine pure_ (i := 7) (N := some 67) (v := ?_) (a' := ?_) #[true, true, true, true, true, true, true, true, false, false, false, false, false, false] rfl rfl (any_of HT_.out (by kernel_rfl)) (fun _ _ _ h => h) (Or.inl ⟨by rfl, ?_⟩) ?_ ?_
             rotate_left
             ·intro w'
              go_simp
              with_reducible rfl
             rotate_left
             ·simp only [Act.put, List.setIfInBounds_toArray, List.set_cons_zero, List.set_cons_succ, i64_w, i32_w]
              rfl
             refine pure_ (i := 8) (N := some 75) (v := ?_) (a' := ?_) #[true, true, true, true, true, true, true, true, true, false, false, false, false, false] rfl rfl (any_of HT_.out (by kernel_rfl)) (fun _ _ _ h => h) (Or.inl ⟨by rfl, ?_⟩) ?_ ?_
             rotate_left
             ·intro w'
              go_simp
              with_reducible rfl
             rotate_left
             ·simp only [Act.put, List.setIfInBounds_toArray, List.set_cons_zero, List.set_cons_succ, i64_w, i32_w]
              rfl
             refine pure_ (i := 9) (N := some 76) (v := ?_) (a' := ?_) #[true, true, true, true, true, true, true, true, true, true, false, false, false, false] rfl rfl (any_of HT_.out (by kernel_rfl)) (fun _ _ _ h => h) (Or.inl ⟨by rfl, ?_⟩) ?_ ?_
             rotate_left
             ·intro w'
              go_simp
              with_reducible rfl
             rotate_left
             ·simp only [Act.put, List.setIfInBounds_toArray, List.set_cons_zero, List.set_cons_succ, i64_w, i32_w]
              rfl
             refine pure_ (i := 10) (N := some 77) (v := ?_) (a' := ?_) #[true, true, true, true, true, true, true, true, true, true, true, false, false, false] rfl rfl (any_of HT_.out (by kernel_rfl)) (fun _ _ _ h => h) (Or.inl ⟨by rfl, ?_⟩) ?_ ?_
             rotate_left
             ·intro w'
              go_simp
              with_reducible rfl
             rotate_left
             ·simp only [Act.put, List.setIfInBounds_toArray, List.set_cons_zero, List.set_cons_succ, i64_w, i32_w]
              rfl
             refine pure_ (i := 11) (N := some 10) (v := ?_) (a' := ?_) #[true, true, true, true, true, true, true, true, true, true, true, true, false, false] rfl rfl (any_of HT_.out (by kernel_rfl)) (fun _ _ _ h => h) (Or.inl ⟨by rfl, ?_⟩) ?_ ?_
             rotate_left
             ·intro w'
              go_simp
              with_reducible rfl
             rotate_left
             ·simp only [Act.put, List.setIfInBounds_toArray, List.set_cons_zero, List.set_cons_succ, i64_w, i32_w]
              rfl
             refine pure_ (i := 12) (N := some 11) (v := ?_) (a' := ?_) #[true, true, true, true, true, true, true, true, true, true, true, true, true, false] rfl rfl (any_of HT_.out (by kernel_rfl)) (fun _ _ _ h => h) (Or.inl ⟨by rfl, ?_⟩) ?_ ?_
             rotate_left
             ·intro w'
              go_simp
              with_reducible rfl
             rotate_left
             ·simp only [Act.put, List.setIfInBounds_toArray, List.set_cons_zero, List.set_cons_succ, i64_w, i32_w]
              rfl
             refine pure_ (i := 13) (N := some 12) (v := ?_) (a' := ?_) #[true, true, true, true, true, true, true, true, true, true, true, true, true, true] rfl rfl (any_of HT_.out (by kernel_rfl)) (fun _ _ _ h => h) (Or.inl ⟨by rfl, ?_⟩) ?_ ?_
             rotate_left
             ·intro w'
              go_simp
              with_reducible rfl
             rotate_left
             ·simp only [Act.put, List.setIfInBounds_toArray, List.set_cons_zero, List.set_cons_succ, i64_w, i32_w]
              rfl
             refine done_ (done_of HT_.out (by kernel_rfl)) ?_
             try go_wp2
             have n0_ := Aside0.mk (Kd.R_drew HO_5.out)
             have n1_ := Aside0.mk (below_drew1 HB.out)
             clear HO_5
             clear HB
             have HO_5 := n0_
             have HB := n1_
             clear n0_ n1_
             have p182 : 0 ≤ (0 : Int) := (by omega)
             have q182 : 0 < (t166.length : Int) := of_decide_eq_true (by first | (with_reducible assumption) | assumption)
             obtain ⟨ad182, e182, hx182_0, hx182_1, hx182_2, hx182_3, hx182_4, hx182_5, hx182_6⟩ := at_T25 (Kd.R_reads' HO_5.out).2.2 0 p182 q182
             obtain rfl : ad177 = ad182 := (by injection e182)
             have qi182 : (0 < t166.length) = True := eq_true (by omega)
             (try rw [show ((0 : Int)).toNat = 0 from rfl] at hx182_0)
             (try rw [show 0 * 7 = 0 from rfl] at hx182_0)
             (try rw [Addr.add_zero'] at hx182_0)
             (try rw [show ((0 : Int)).toNat = 0 from rfl] at hx182_1)
             (try rw [show 0 * 7 = 0 from rfl] at hx182_1)
             (try rw [Addr.add_zero'] at hx182_1)
             (try rw [show ((0 : Int)).toNat = 0 from rfl] at hx182_2)
             (try rw [show 0 * 7 = 0 from rfl] at hx182_2)
             (try rw [Addr.add_zero'] at hx182_2)
             (try rw [show ((0 : Int)).toNat = 0 from rfl] at hx182_3)
             (try rw [show 0 * 7 = 0 from rfl] at hx182_3)
             (try rw [Addr.add_zero'] at hx182_3)
             (try rw [show ((0 : Int)).toNat = 0 from rfl] at hx182_4)
             (try rw [show 0 * 7 = 0 from rfl] at hx182_4)
             (try rw [Addr.add_zero'] at hx182_4)
             (try rw [show ((0 : Int)).toNat = 0 from rfl] at hx182_5)
             (try rw [show 0 * 7 = 0 from rfl] at hx182_5)
             (try rw [Addr.add_zero'] at hx182_5)
             (try rw [show ((0 : Int)).toNat = 0 from rfl] at hx182_6)
             (try rw [show 0 * 7 = 0 from rfl] at hx182_6)
             (try rw [Addr.add_zero'] at hx182_6)
             replace p182 := eq_true p182
             replace q182 := eq_true q182
             have p183 : 0 ≤ (0 : Int) := (by omega)
             have q183 : 0 < (t166.length : Int) := of_decide_eq_true (by first | (with_reducible assumption) | assumption)
             obtain ⟨ad183, e183, hx183_0, hx183_1, hx183_2, hx183_3, hx183_4, hx183_5, hx183_6⟩ := at_T25 (Kd.R_reads' HO_5.out).2.2 0 p183 q183
             obtain rfl : ad177 = ad183 := (by injection e183)
             have qi183 : (0 < t166.length) = True := eq_true (by omega)
             (try rw [show ((0 : Int)).toNat = 0 from rfl] at hx183_0)
             (try rw [show 0 * 7 = 0 from rfl] at hx183_0)
             (try rw [Addr.add_zero'] at hx183_0)
             (try rw [show ((0 : Int)).toNat = 0 from rfl] at hx183_1)
             (try rw [show 0 * 7 = 0 from rfl] at hx183_1)
             (try rw [Addr.add_zero'] at hx183_1)
             (try rw [show ((0 : Int)).toNat = 0 from rfl] at hx183_2)
             (try rw [show 0 * 7 = 0 from rfl] at hx183_2)
             (try rw [Addr.add_zero'] at hx183_2)
             (try rw [show ((0 : Int)).toNat = 0 from rfl] at hx183_3)
             (try rw [show 0 * 7 = 0 from rfl] at hx183_3)
             (try rw [Addr.add_zero'] at hx183_3)
             (try rw [show ((0 : Int)).toNat = 0 from rfl] at hx183_4)
             (try rw [show 0 * 7 = 0 from rfl] at hx183_4)
             (try rw [Addr.add_zero'] at hx183_4)
             (try rw [show ((0 : Int)).toNat = 0 from rfl] at hx183_5)
             (try rw [show 0 * 7 = 0 from rfl] at hx183_5)
             (try rw [Addr.add_zero'] at hx183_5)
             (try rw [show ((0 : Int)).toNat = 0 from rfl] at hx183_6)
             (try rw [show 0 * 7 = 0 from rfl] at hx183_6)
             (try rw [Addr.add_zero'] at hx183_6)
             replace p183 := eq_true p183
             replace q183 := eq_true q183
             have p184 : 0 ≤ (0 : Int) := (by omega)
             have q184 : 0 < (t166.length : Int) := of_decide_eq_true (by first | (with_reducible assumption) | assumption)
             obtain ⟨ad184, e184, hx184_0, hx184_1, hx184_2, hx184_3, hx184_4, hx184_5, hx184_6⟩ := at_T25 (Kd.R_reads' HO_5.out).2.2 0 p184 q184
             obtain rfl : ad177 = ad184 := (by injection e184)
             have qi184 : (0 < t166.length) = True := eq_true (by omega)
             (try rw [show ((0 : Int)).toNat = 0 from rfl] at hx184_0)
             (try rw [show 0 * 7 = 0 from rfl] at hx184_0)
             (try rw [Addr.add_zero'] at hx184_0)
             (try rw [show ((0 : Int)).toNat = 0 from rfl] at hx184_1)
             (try rw [show 0 * 7 = 0 from rfl] at hx184_1)
             (try rw [Addr.add_zero'] at hx184_1)
             (try rw [show ((0 : Int)).toNat = 0 from rfl] at hx184_2)
             (try rw [show 0 * 7 = 0 from rfl] at hx184_2)
             (try rw [Addr.add_zero'] at hx184_2)
             (try rw [show ((0 : Int)).toNat = 0 from rfl] at hx184_3)
             (try rw [show 0 * 7 = 0 from rfl] at hx184_3)
             (try rw [Addr.add_zero'] at hx184_3)
             (try rw [show ((0 : Int)).toNat = 0 from rfl] at hx184_4)
             (try rw [show 0 * 7 = 0 from rfl] at hx184_4)
             (try rw [Addr.add_zero'] at hx184_4)
             (try rw [show ((0 : Int)).toNat = 0 from rfl] at hx184_5)
             (try rw [show 0 * 7 = 0 from rfl] at hx184_5)
             (try rw [Addr.add_zero'] at hx184_5)
             (try rw [show ((0 : Int)).toNat = 0 from rfl] at hx184_6)
             (try rw [show 0 * 7 = 0 from rfl] at hx184_6)
             (try rw [Addr.add_zero'] at hx184_6)
             replace p184 := eq_true p184
             replace q184 := eq_true q184
             have p186 : 0 ≤ (0 : Int) := (by omega)
             have q186 : 0 < (t166.length : Int) := of_decide_eq_true (by first | (with_reducible assumption) | assumption)
             obtain ⟨ad186, e186, hx186_0, hx186_1, hx186_2, hx186_3, hx186_4, hx186_5, hx186_6⟩ := at_T25 (Kd.R_reads' HO_5.out).2.2 0 p186 q186
             obtain rfl : ad177 = ad186 := (by injection e186)
             have qi186 : (0 < t166.length) = True := eq_true (by omega)
             (try rw [show ((0 : Int)).toNat = 0 from rfl] at hx186_0)
             (try rw [show 0 * 7 = 0 from rfl] at hx186_0)
             (try rw [Addr.add_zero'] at hx186_0)
             (try rw [show ((0 : Int)).toNat = 0 from rfl] at hx186_1)
             (try rw [show 0 * 7 = 0 from rfl] at hx186_1)
             (try rw [Addr.add_zero'] at hx186_1)
             (try rw [show ((0 : Int)).toNat = 0 from rfl] at hx186_2)
             (try rw [show 0 * 7 = 0 from rfl] at hx186_2)
             (try rw [Addr.add_zero'] at hx186_2)
             (try rw [show ((0 : Int)).toNat = 0 from rfl] at hx186_3)
             (try rw [show 0 * 7 = 0 from rfl] at hx186_3)
             (try rw [Addr.add_zero'] at hx186_3)
             (try rw [show ((0 : Int)).toNat = 0 from rfl] at hx186_4)
             (try rw [show 0 * 7 = 0 from rfl] at hx186_4)
             (try rw [Addr.add_zero'] at hx186_4)
             (try rw [show ((0 : Int)).toNat = 0 from rfl] at hx186_5)
             (try rw [show 0 * 7 = 0 from rfl] at hx186_5)
             (try rw [Addr.add_zero'] at hx186_5)
             (try rw [show ((0 : Int)).toNat = 0 from rfl] at hx186_6)
             (try rw [show 0 * 7 = 0 from rfl] at hx186_6)
             (try rw [Addr.add_zero'] at hx186_6)
             replace p186 := eq_true p186
             replace q186 := eq_true q186
             have p188 : 0 ≤ (0 : Int) := (by omega)
             have q188 : 0 < (t166.length : Int) := of_decide_eq_true (by first | (with_reducible assumption) | assumption)
             obtain ⟨ad188, e188, hx188_0, hx188_1, hx188_2, hx188_3, hx188_4, hx188_5, hx188_6⟩ := at_T25 (Kd.R_reads' HO_5.out).2.2 0 p188 q188
             obtain rfl : ad177 = ad188 := (by injection e188)
             have qi188 : (0 < t166.length) = True := eq_true (by omega)
             (try rw [show ((0 : Int)).toNat = 0 from rfl] at hx188_0)
             (try rw [show 0 * 7 = 0 from rfl] at hx188_0)
             (try rw [Addr.add_zero'] at hx188_0)
             (try rw [show ((0 : Int)).toNat = 0 from rfl] at hx188_1)
             (try rw [show 0 * 7 = 0 from rfl] at hx188_1)
             (try rw [Addr.add_zero'] at hx188_1)
             (try rw [show ((0 : Int)).toNat = 0 from rfl] at hx188_2)
             (try rw [show 0 * 7 = 0 from rfl] at hx188_2)
             (try rw [Addr.add_zero'] at hx188_2)
             (try rw [show ((0 : Int)).toNat = 0 from rfl] at hx188_3)
             (try rw [show 0 * 7 = 0 from rfl] at hx188_3)
             (try rw [Addr.add_zero'] at hx188_3)
             (try rw [show ((0 : Int)).toNat = 0 from rfl] at hx188_4)
             (try rw [show 0 * 7 = 0 from rfl] at hx188_4)
             (try rw [Addr.add_zero'] at hx188_4)
             (try rw [show ((0 : Int)).toNat = 0 from rfl] at hx188_5)
             (try rw [show 0 * 7 = 0 from rfl] at hx188_5)
             (try rw [Addr.add_zero'] at hx188_5)
             (try rw [show ((0 : Int)).toNat = 0 from rfl] at hx188_6)
             (try rw [show 0 * 7 = 0 from rfl] at hx188_6)
             (try rw [Addr.add_zero'] at hx188_6)
             replace p188 := eq_true p188
             replace q188 := eq_true q188
             refine start_ (n := 43) (S := fun w' => w'.cell? ad177 = some (.int .i64 ((rd_T25 t166 0).f0)) ∧ w'.cell? ⟨ad177.block, ad177.off + 1, none⟩ = some (.int .i64 ((rd_T25 t166 0).f1.f0)) ∧ w'.cell? ⟨ad177.block, ad177.off + 2, none⟩ = some (.int .i64 ((rd_T25 t166 0).f1.f1)) ∧ w'.cell? ⟨ad177.block, ad177.off + 3, none⟩ = some (.int .i64 ((rd_T25 t166 0).f2.f0)) ∧ w'.cell? ⟨ad177.block, ad177.off + 4, none⟩ = some (.int .i64 ((rd_T25 t166 0).f2.f1)) ∧ w'.cell? ⟨ad177.block, ad177.off + 5, none⟩ = some (.int .i64 ((rd_T25 t166 0).f3.f0)) ∧ w'.cell? ⟨ad177.block, ad177.off + 6, none⟩ = some (.int .i64 ((rd_T25 t166 0).f3.f1)) ∧ w'.cell? ad177 = some (.int .i64 ((rd_T25 t166 0).f0)) ∧ w'.cell? ⟨ad177.block, ad177.off + 1, none⟩ = some (.int .i64 ((rd_T25 t166 0).f1.f0)) ∧ w'.cell? ⟨ad177.block, ad177.off + 2, none⟩ = some (.int .i64 ((rd_T25 t166 0).f1.f1)) ∧ w'.cell? ⟨ad177.block, ad177.off + 3, none⟩ = some (.int .i64 ((rd_T25 t166 0).f2.f0)) ∧ w'.cell? ⟨ad177.block, ad177.off + 4, none⟩ = some (.int .i64 ((rd_T25 t166 0).f2.f1)) ∧ w'.cell? ⟨ad177.block, ad177.off + 5, none⟩ = some (.int .i64 ((rd_T25 t166 0).f3.f0)) ∧ w'.cell? ⟨ad177.block, ad177.off + 6, none⟩ = some (.int .i64 ((rd_T25 t166 0).f3.f1)) ∧ w'.cell? ad177 = some (.int .i64 ((rd_T25 t166 0).f0)) ∧ w'.cell? ⟨ad177.block, ad177.off + 1, none⟩ = some (.int .i64 ((rd_T25 t166 0).f1.f0)) ∧ w'.cell? ⟨ad177.block, ad177.off + 2, none⟩ = some (.int .i64 ((rd_T25 t166 0).f1.f1)) ∧ w'.cell? ⟨ad177.block, ad177.off + 3, none⟩ = some (.int .i64 ((rd_T25 t166 0).f2.f0)) ∧ w'.cell? ⟨ad177.block, ad177.off + 4, none⟩ = some (.int .i64 ((rd_T25 t166 0).f2.f1)) ∧ w'.cell? ⟨ad177.block, ad177.off + 5, none⟩ = some (.int .i64 ((rd_T25 t166 0).f3.f0)) ∧ w'.cell? ⟨ad177.block, ad177.off + 6, none⟩ = some (.int .i64 ((rd_T25 t166 0).f3.f1)) ∧ w'.cell? ad177 = some (.int .i64 ((rd_T25 t166 0).f0)) ∧ w'.cell? ⟨ad177.block, ad177.off + 1, none⟩ = some (.int .i64 ((rd_T25 t166 0).f1.f0)) ∧ w'.cell? ⟨ad177.block, ad177.off + 2, none⟩ = some (.int .i64 ((rd_T25 t166 0).f1.f1)) ∧ w'.cell? ⟨ad177.block, ad177.off + 3, none⟩ = some (.int .i64 ((rd_T25 t166 0).f2.f0)) ∧ w'.cell? ⟨ad177.block, ad177.off + 4, none⟩ = some (.int .i64 ((rd_T25 t166 0).f2.f1)) ∧ w'.cell? ⟨ad177.block, ad177.off + 5, none⟩ = some (.int .i64 ((rd_T25 t166 0).f3.f0)) ∧ w'.cell? ⟨ad177.block, ad177.off + 6, none⟩ = some (.int .i64 ((rd_T25 t166 0).f3.f1)) ∧ w'.cell? ad177 = some (.int .i64 ((rd_T25 t166 0).f0)) ∧ w'.cell? ⟨ad177.block, ad177.off + 1, none⟩ = some (.int .i64 ((rd_T25 t166 0).f1.f0)) ∧ w'.cell? ⟨ad177.block, ad177.off + 2, none⟩ = some (.int .i64 ((rd_T25 t166 0).f1.f1)) ∧ w'.cell? ⟨ad177.block, ad177.off + 3, none⟩ = some (.int .i64 ((rd_T25 t166 0).f2.f0)) ∧ w'.cell? ⟨ad177.block, ad177.off + 4, none⟩ = some (.int .i64 ((rd_T25 t166 0).f2.f1)) ∧ w'.cell? ⟨ad177.block, ad177.off + 5, none⟩ = some (.int .i64 ((rd_T25 t166 0).f3.f0)) ∧ w'.cell? ⟨ad177.block, ad177.off + 6, none⟩ = some (.int .i64 ((rd_T25 t166 0).f3.f1))) (ds := []) #[false, false, false, false, false, false, false, false, false, false, false, false, false, false, false, false, false, false, false, false, false, false, false, false, false, false, false, false, false, false, false, false, false, false, false, false, false, false, false, false, false, false, false] (by kernel_rfl) rfl rfl ⟨hx182_0, hx182_1, hx182_2, hx182_3, hx182_4, hx182_5, hx182_6, hx183_0, hx183_1, hx183_2, hx183_3, hx183_4, hx183_5, hx183_6, hx184_0, hx184_1, hx184_2, hx184_3, hx184_4, hx184_5, hx184_6, hx186_0, hx186_1, hx186_2, hx186_3, hx186_4, hx186_5, hx186_6, hx188_0, hx188_1, hx188_2, hx188_3, hx188_4, hx188_5, hx188_6⟩ (fun hHeld => ?_); refine with_tabW wageofficelaw27_head0.tab9 wageofficelaw27_head0.bits9 (fun HT_ HW_ => ?_)
             generalize w46.drew = w47 at HO_5 HB hx182_0 hx182_1 hx182_2 hx182_3 hx182_4 hx182_5 hx182_6 hx183_0 hx183_1 hx183_2 hx183_3 hx183_4 hx183_5 hx183_6 hx184_0 hx184_1 hx184_2 hx184_3 hx184_4 hx184_5 hx184_6 hx186_0 hx186_1 hx186_2 hx186_3 hx186_4 hx186_5 hx186_6 hx188_0 hx188_1 hx188_2 hx188_3 hx188_4 hx188_5 hx188_6 hHeld ⊢
             refine pure_ (i := 0) (N := some 78) (v := ?_) (a' := ?_) #[true, false, false, false, false, false, false, false, false, false, false, false, false, false, false, false, false, false, false, false, false, false, false, false, false, false, false, false, false, false, false, false, false, false, false, false, false, false, false, false, false, false, false] rfl rfl (any_of HT_.out (by kernel_rfl)) (fun _ _ _ h => h) (Or.inl ⟨by rfl, ?_⟩) ?_ ?_
             rotate_left
             ·intro w'
              go_simp
              with_reducible rfl
             rotate_left
             ·simp only [Act.put, List.setIfInBounds_toArray, List.set_cons_zero, List.set_cons_succ, i64_w, i32_w]
              rfl
             refine pure_ (i := 1) (N := some 79) (v := ?_) (a' := ?_) #[true, true, false, false, false, false, false, false, false, false, false, false, false, false, false, false, false, false, false, false, false, false, false, false, false, false, false, false, false, false, false, false, false, false, false, false, false, false, false, false, false, false, false] rfl rfl (any_of HT_.out (by kernel_rfl)) (fun _ _ _ h => h) (Or.inl ⟨by rfl, ?_⟩) ?_ ?_
             rotate_left
             ·intro w'
              go_simp
              with_reducible rfl
             rotate_left
             ·simp only [Act.put, List.setIfInBounds_toArray, List.set_cons_zero, List.set_cons_succ, i64_w, i32_w]
              rfl
             refine pure_ (i := 2) (N := some 80) (v := ?_) (a' := ?_) #[true, true, true, false, false, false, false, false, false, false, false, false, false, false, false, false, false, false, false, false, false, false, false, false, false, false, false, false, false, false, false, false, false, false, false, false, false, false, false, false, false, false, false] rfl rfl (any_of HT_.out (by kernel_rfl)) (fun _ _ _ h => h) (Or.inl ⟨by rfl, ?_⟩) ?_ ?_
             rotate_left
             ·intro w'
              go_simp
              with_reducible rfl
             rotate_left
             ·simp only [Act.put, List.setIfInBounds_toArray, List.set_cons_zero, List.set_cons_succ, i64_w, i32_w]
              rfl
             refine pure_ (i := 3) (N := some 81) (v := ?_) (a' := ?_) #[true, true, true, true, false, false, false, false, false, false, false, false, false, false, false, false, false, false, false, false, false, false, false, false, false, false, false, false, false, false, false, false, false, false, false, false, false, false, false, false, false, false, false] rfl rfl (any_of HT_.out (by kernel_rfl)) (fun _ _ _ h => h) (Or.inl ⟨by rfl, ?_⟩) ?_ ?_
             rotate_left
             ·intro w'
              go_simp
              with_reducible rfl
             rotate_left
             ·simp only [Act.put, List.setIfInBounds_toArray, List.set_cons_zero, List.set_cons_succ, i64_w, i32_w]
              rfl
             refine pure_ (i := 4) (N := some 82) (v := ?_) (a' := ?_) #[true, true, true, true, true, false, false, false, false, false, false, false, false, false, false, false, false, false, false, false, false, false, false, false, false, false, false, false, false, false, false, false, false, false, false, false, false, false, false, false, false, false, false] rfl rfl (any_of HT_.out (by kernel_rfl)) (fun _ _ _ h => h) (Or.inl ⟨by rfl, ?_⟩) ?_ ?_
             rotate_left
             ·intro w'
              go_simp
              with_reducible rfl
             rotate_left
             ·simp only [Act.put, List.setIfInBounds_toArray, List.set_cons_zero, List.set_cons_succ, i64_w, i32_w]
              rfl
             refine pure_ (i := 5) (N := some 83) (v := ?_) (a' := ?_) #[true, true, true, true, true, true, false, false, false, false, false, false, false, false, false, false, false, false, false, false, false, false, false, false, false, false, false, false, false, false, false, false, false, false, false, false, false, false, false, false, false, false, false] rfl rfl (any_of HT_.out (by kernel_rfl)) (fun _ _ _ h => h) (Or.inl ⟨by rfl, ?_⟩) ?_ ?_
             rotate_left
             ·intro w'
              go_simp
              with_reducible rfl
             rotate_left
             ·simp only [Act.put, List.setIfInBounds_toArray, List.set_cons_zero, List.set_cons_succ, i64_w, i32_w]
              rfl
             refine pure_ (i := 6) (N := some 84) (v := ?_) (a' := ?_) #[true, true, true, true, true, true, true, false, false, false, false, false, false, false, false, false, false, false, false, false, false, false, false, false, false, false, false, false, false, false, false, false, false, false, false, false, false, false, false, false, false, false, false] rfl rfl (any_of HT_.out (by kernel_rfl)) (fun _ _ _ h => h) (Or.inl ⟨by rfl, ?_⟩) ?_ ?_
             rotate_left
             ·intro w'
              go_simp
              with_reducible rfl
             rotate_left
             ·simp only [Act.put, List.setIfInBounds_toArray, List.set_cons_zero, List.set_cons_succ, i64_w, i32_w]
              rfl
             refine pure_ (i := 8) (N := some 86) (v := ?_) (a' := ?_) #[true, true, true, true, true, true, true, false, true, false, false, false, false, false, false, false, false, false, false, false, false, false, false, false, false, false, false, false, false, false, false, false, false, false, false, false, false, false, false, false, false, false, false] rfl rfl (any_of HT_.out (by kernel_rfl)) (fun _ _ _ h => h) (Or.inl ⟨by rfl, ?_⟩) ?_ ?_
             rotate_left
             ·intro w'
              go_simp
              with_reducible rfl
             rotate_left
             ·simp only [Act.put, List.setIfInBounds_toArray, List.set_cons_zero, List.set_cons_succ, i64_w, i32_w]
              rfl
             refine pure_ (i := 9) (N := some 87) (v := ?_) (a' := ?_) #[true, true, true, true, true, true, true, false, true, true, false, false, false, false, false, false, false, false, false, false, false, false, false, false, false, false, false, false, false, false, false, false, false, false, false, false, false, false, false, false, false, false, false] rfl rfl (any_of HT_.out (by kernel_rfl)) (fun _ _ _ h => h) (Or.inl ⟨by rfl, ?_⟩) ?_ ?_
             rotate_left
             ·intro w'
              go_simp
              with_reducible rfl
             rotate_left
             ·simp only [Act.put, List.setIfInBounds_toArray, List.set_cons_zero, List.set_cons_succ, i64_w, i32_w]
              rfl
             refine pure_ (i := 10) (N := some 88) (v := ?_) (a' := ?_) #[true, true, true, true, true, true, true, false, true, true, true, false, false, false, false, false, false, false, false, false, false, false, false, false, false, false, false, false, false, false, false, false, false, false, false, false, false, false, false, false, false, false, false] rfl rfl (any_of HT_.out (by kernel_rfl)) (fun _ _ _ h => h) (Or.inl ⟨by rfl, ?_⟩) ?_ ?_
             rotate_left
             ·intro w'
              go_simp
              with_reducible rfl
             rotate_left
             ·simp only [Act.put, List.setIfInBounds_toArray, List.set_cons_zero, List.set_cons_succ, i64_w, i32_w]
              rfl
             refine pure_ (i := 11) (N := some 89) (v := ?_) (a' := ?_) #[true, true, true, true, true, true, true, false, true, true, true, true, false, false, false, false, false, false, false, false, false, false, false, false, false, false, false, false, false, false, false, false, false, false, false, false, false, false, false, false, false, false, false] rfl rfl (any_of HT_.out (by kernel_rfl)) (fun _ _ _ h => h) (Or.inl ⟨by rfl, ?_⟩) ?_ ?_
             rotate_left
             ·intro w'
              go_simp
              with_reducible rfl
             rotate_left
             ·simp only [Act.put, List.setIfInBounds_toArray, List.set_cons_zero, List.set_cons_succ, i64_w, i32_w]
              rfl
             refine pure_ (i := 15) (N := some 93) (v := ?_) (a' := ?_) #[true, true, true, true, true, true, true, false, true, true, true, true, false, false, false, true, false, false, false, false, false, false, false, false, false, false, false, false, false, false, false, false, false, false, false, false, false, false, false, false, false, false, false] rfl rfl (any_of HT_.out (by kernel_rfl)) (fun _ _ _ h => h) (Or.inl ⟨by rfl, ?_⟩) ?_ ?_
             rotate_left
             ·intro w'
              go_simp
              with_reducible rfl
             rotate_left
             ·simp only [Act.put, List.setIfInBounds_toArray, List.set_cons_zero, List.set_cons_succ, i64_w, i32_w]
              rfl
             refine pure_ (i := 16) (N := some 94) (v := ?_) (a' := ?_) #[true, true, true, true, true, true, true, false, true, true, true, true, false, false, false, true, true, false, false, false, false, false, false, false, false, false, false, false, false, false, false, false, false, false, false, false, false, false, false, false, false, false, false] rfl rfl (any_of HT_.out (by kernel_rfl)) (fun _ _ _ h => h) (Or.inl ⟨by rfl, ?_⟩) ?_ ?_
             rotate_left
             ·intro w'
              go_simp
              with_reducible rfl
             rotate_left
             ·simp only [Act.put, List.setIfInBounds_toArray, List.set_cons_zero, List.set_cons_succ, i64_w, i32_w]
              rfl
             refine pure_ (i := 17) (N := some 95) (v := ?_) (a' := ?_) #[true, true, true, true, true, true, true, false, true, true, true, true, false, false, false, true, true, true, false, false, false, false, false, false, false, false, false, false, false, false, false, false, false, false, false, false, false, false, false, false, false, false, false] rfl rfl (any_of HT_.out (by kernel_rfl)) (fun _ _ _ h => h) (Or.inl ⟨by rfl, ?_⟩) ?_ ?_
             rotate_left
             ·intro w'
              go_simp
              with_reducible rfl
             rotate_left
             ·simp only [Act.put, List.setIfInBounds_toArray, List.set_cons_zero, List.set_cons_succ, i64_w, i32_w]
              rfl
             refine pure_ (i := 22) (N := some 100) (v := ?_) (a' := ?_) #[true, true, true, true, true, true, true, false, true, true, true, true, false, false, false, true, true, true, false, false, false, false, true, false, false, false, false, false, false, false, false, false, false, false, false, false, false, false, false, false, false, false, false] rfl rfl (any_of HT_.out (by kernel_rfl)) (fun _ _ _ h => h) (Or.inl ⟨by rfl, ?_⟩) ?_ ?_
             rotate_left
             ·intro w'
              go_simp
              with_reducible rfl
             rotate_left
             ·simp only [Act.put, List.setIfInBounds_toArray, List.set_cons_zero, List.set_cons_succ, i64_w, i32_w]
              rfl
             refine pure_ (i := 23) (N := some 101) (v := ?_) (a' := ?_) #[true, true, true, true, true, true, true, false, true, true, true, true, false, false, false, true, true, true, false, false, false, false, true, true, false, false, false, false, false, false, false, false, false, false, false, false, false, false, false, false, false, false, false] rfl rfl (any_of HT_.out (by kernel_rfl)) (fun _ _ _ h => h) (Or.inl ⟨by rfl, ?_⟩) ?_ ?_
             rotate_left
             ·intro w'
              go_simp
              with_reducible rfl
             rotate_left
             ·simp only [Act.put, List.setIfInBounds_toArray, List.set_cons_zero, List.set_cons_succ, i64_w, i32_w]
              rfl
             refine pure_ (i := 24) (N := some 102) (v := ?_) (a' := ?_) #[true, true, true, true, true, true, true, false, true, true, true, true, false, false, false, true, true, true, false, false, false, false, true, true, true, false, false, false, false, false, false, false, false, false, false, false, false, false, false, false, false, false, false] rfl rfl (any_of HT_.out (by kernel_rfl)) (fun _ _ _ h => h) (Or.inl ⟨by rfl, ?_⟩) ?_ ?_
             rotate_left
             ·intro w'
              go_simp
              with_reducible rfl
             rotate_left
             ·simp only [Act.put, List.setIfInBounds_toArray, List.set_cons_zero, List.set_cons_succ, i64_w, i32_w]
              rfl
             refine pure_ (i := 25) (N := some 103) (v := ?_) (a' := ?_) #[true, true, true, true, true, true, true, false, true, true, true, true, false, false, false, true, true, true, false, false, false, false, true, true, true, true, false, false, false, false, false, false, false, false, false, false, false, false, false, false, false, false, false] rfl rfl (any_of HT_.out (by kernel_rfl)) (fun _ _ _ h => h) (Or.inl ⟨by rfl, ?_⟩) ?_ ?_
             rotate_left
             ·intro w'
              go_simp
              with_reducible rfl
             rotate_left
             ·simp only [Act.put, List.setIfInBounds_toArray, List.set_cons_zero, List.set_cons_succ, i64_w, i32_w]
              rfl
             refine pure_ (i := 30) (N := some 108) (v := ?_) (a' := ?_) #[true, true, true, true, true, true, true, false, true, true, true, true, false, false, false, true, true, true, false, false, false, false, true, true, true, true, false, false, false, false, true, false, false, false, false, false, false, false, false, false, false, false, false] rfl rfl (any_of HT_.out (by kernel_rfl)) (fun _ _ _ h => h) (Or.inl ⟨by rfl, ?_⟩) ?_ ?_
             rotate_left
             ·intro w'
              go_simp
              with_reducible rfl
             rotate_left
             ·simp only [Act.put, List.setIfInBounds_toArray, List.set_cons_zero, List.set_cons_succ, i64_w, i32_w]
              rfl
             refine pure_ (i := 31) (N := some 109) (v := ?_) (a' := ?_) #[true, true, true, true, true, true, true, false, true, true, true, true, false, false, false, true, true, true, false, false, false, false, true, true, true, true, false, false, false, false, true, true, false, false, false, false, false, false, false, false, false, false, false] rfl rfl (any_of HT_.out (by kernel_rfl)) (fun _ _ _ h => h) (Or.inl ⟨by rfl, ?_⟩) ?_ ?_
             rotate_left
             ·intro w'
              go_simp
              with_reducible rfl
             rotate_left
             ·simp only [Act.put, List.setIfInBounds_toArray, List.set_cons_zero, List.set_cons_succ, i64_w, i32_w]
              rfl
             refine pure_ (i := 32) (N := some 110) (v := ?_) (a' := ?_) #[true, true, true, true, true, true, true, false, true, true, true, true, false, false, false, true, true, true, false, false, false, false, true, true, true, true, false, false, false, false, true, true, true, false, false, false, false, false, false, false, false, false, false] rfl rfl (any_of HT_.out (by kernel_rfl)) (fun _ _ _ h => h) (Or.inl ⟨by rfl, ?_⟩) ?_ ?_
             rotate_left
             ·intro w'
              go_simp
              with_reducible rfl
             rotate_left
             ·simp only [Act.put, List.setIfInBounds_toArray, List.set_cons_zero, List.set_cons_succ, i64_w, i32_w]
              rfl
             refine pure_ (i := 33) (N := some 111) (v := ?_) (a' := ?_) #[true, true, true, true, true, true, true, false, true, true, true, true, false, false, false, true, true, true, false, false, false, false, true, true, true, true, false, false, false, false, true, true, true, true, false, false, false, false, false, false, false, false, false] rfl rfl (any_of HT_.out (by kernel_rfl)) (fun _ _ _ h => h) (Or.inl ⟨by rfl, ?_⟩) ?_ ?_
             rotate_left
             ·intro w'
              go_simp
              with_reducible rfl
             rotate_left
             ·simp only [Act.put, List.setIfInBounds_toArray, List.set_cons_zero, List.set_cons_succ, i64_w, i32_w]
              rfl
             refine take_ (i := 7) (N := some 85) (v := ?_) (a' := ?_) #[true, true, true, true, true, true, true, true, true, true, true, true, false, false, false, true, true, true, false, false, false, false, true, true, true, true, false, false, false, false, true, true, true, true, false, false, false, false, false, false, false, false, false] rfl rfl (take_ofW HT_.out HW_.out (by kernel_rfl)) (fun _ _ _ h => h) (Or.inl ⟨by rfl, ?_⟩) hHeld ?_ ?_
             rotate_left
             ·rintro w' ⟨s0, s1, s2, s3, s4, s5, s6, s7, s8, s9, s10, s11, s12, s13, s14, s15, s16, s17, s18, s19, s20, s21, s22, s23, s24, s25, s26, s27, s28, s29, s30, s31, s32, s33, s34⟩
              go_simp
              with_reducible rfl
             rotate_left
             ·simp only [Act.put, List.setIfInBounds_toArray, List.set_cons_zero, List.set_cons_succ, i64_w, i32_w]
              rfl
             refine take_ (i := 12) (N := some 90) (v := ?_) (a' := ?_) #[true, true, true, true, true, true, true, true, true, true, true, true, true, false, false, true, true, true, false, false, false, false, true, true, true, true, false, false, false, false, true, true, true, true, false, false, false, false, false, false, false, false, false] rfl rfl (take_ofW HT_.out HW_.out (by kernel_rfl)) (fun _ _ _ h => h) (Or.inl ⟨by rfl, ?_⟩) hHeld ?_ ?_
             rotate_left
             ·rintro w' ⟨s0, s1, s2, s3, s4, s5, s6, s7, s8, s9, s10, s11, s12, s13, s14, s15, s16, s17, s18, s19, s20, s21, s22, s23, s24, s25, s26, s27, s28, s29, s30, s31, s32, s33, s34⟩
              go_simp
              with_reducible rfl
             rotate_left
             ·simp only [Act.put, List.setIfInBounds_toArray, List.set_cons_zero, List.set_cons_succ, i64_w, i32_w]
              rfl
             refine pure_ (i := 13) (N := some 91) (v := ?_) (a' := ?_) #[true, true, true, true, true, true, true, true, true, true, true, true, true, true, false, true, true, true, false, false, false, false, true, true, true, true, false, false, false, false, true, true, true, true, false, false, false, false, false, false, false, false, false] rfl rfl (any_of HT_.out (by kernel_rfl)) (fun _ _ _ h => h) (Or.inl ⟨by rfl, ?_⟩) ?_ ?_
             rotate_left
             ·intro w'
              go_simp
              with_reducible rfl
             rotate_left
             ·simp only [Act.put, List.setIfInBounds_toArray, List.set_cons_zero, List.set_cons_succ, i64_w, i32_w]
              rfl
             refine pure_ (i := 14) (N := some 92) (v := ?_) (a' := ?_) #[true, true, true, true, true, true, true, true, true, true, true, true, true, true, true, true, true, true, false, false, false, false, true, true, true, true, false, false, false, false, true, true, true, true, false, false, false, false, false, false, false, false, false] rfl rfl (any_of HT_.out (by kernel_rfl)) (fun _ _ _ h => h) (Or.inl ⟨by rfl, ?_⟩) ?_ ?_
             rotate_left
             ·intro w'
              go_simp
              with_reducible rfl
             rotate_left
             ·simp only [Act.put, List.setIfInBounds_toArray, List.set_cons_zero, List.set_cons_succ, i64_w, i32_w]
              rfl
             refine take_ (i := 18) (N := some 96) (v := ?_) (a' := ?_) #[true, true, true, true, true, true, true, true, true, true, true, true, true, true, true, true, true, true, true, false, false, false, true, true, true, true, false, false, false, false, true, true, true, true, false, false, false, false, false, false, false, false, false] rfl rfl (take_ofW HT_.out HW_.out (by kernel_rfl)) (fun _ _ _ h => h) (Or.inl ⟨by rfl, ?_⟩) hHeld ?_ ?_
             rotate_left
             ·rintro w' ⟨s0, s1, s2, s3, s4, s5, s6, s7, s8, s9, s10, s11, s12, s13, s14, s15, s16, s17, s18, s19, s20, s21, s22, s23, s24, s25, s26, s27, s28, s29, s30, s31, s32, s33, s34⟩
              go_simp
              with_reducible rfl
             rotate_left
             ·simp only [Act.put, List.setIfInBounds_toArray, List.set_cons_zero, List.set_cons_succ, i64_w, i32_w]
              rfl
             refine take_ (i := 26) (N := some 104) (v := ?_) (a' := ?_) #[true, true, true, true, true, true, true, true, true, true, true, true, true, true, true, true, true, true, true, false, false, false, true, true, true, true, true, false, false, false, true, true, true, true, false, false, false, false, false, false, false, false, false] rfl rfl (take_ofW HT_.out HW_.out (by kernel_rfl)) (fun _ _ _ h => h) (Or.inl ⟨by rfl, ?_⟩) hHeld ?_ ?_
             rotate_left
             ·rintro w' ⟨s0, s1, s2, s3, s4, s5, s6, s7, s8, s9, s10, s11, s12, s13, s14, s15, s16, s17, s18, s19, s20, s21, s22, s23, s24, s25, s26, s27, s28, s29, s30, s31, s32, s33, s34⟩
              go_simp
              with_reducible rfl
             rotate_left
             ·simp only [Act.put, List.setIfInBounds_toArray, List.set_cons_zero, List.set_cons_succ, i64_w, i32_w]
              rfl
             refine take_ (i := 34) (N := some 112) (v := ?_) (a' := ?_) #[true, true, true, true, true, true, true, true, true, true, true, true, true, true, true, true, true, true, true, false, false, false, true, true, true, true, true, false, false, false, true, true, true, true, true, false, false, false, false, false, false, false, false] rfl rfl (take_ofW HT_.out HW_.out (by kernel_rfl)) (fun _ _ _ h => h) (Or.inl ⟨by rfl, ?_⟩) hHeld ?_ ?_
             rotate_left
             ·rintro w' ⟨s0, s1, s2, s3, s4, s5, s6, s7, s8, s9, s10, s11, s12, s13, s14, s15, s16, s17, s18, s19, s20, s21, s22, s23, s24, s25, s26, s27, s28, s29, s30, s31, s32, s33, s34⟩
              go_simp
              with_reducible rfl
             rotate_left
             ·simp only [Act.put, List.setIfInBounds_toArray, List.set_cons_zero, List.set_cons_succ, i64_w, i32_w]
              rfl
             refine one_ (i := 19) (N := some 97) #[true, true, true, true, true, true, true, true, true, true, true, true, true, true, true, true, true, true, true, true, false, false, true, true, true, true, true, false, false, false, true, true, true, true, true, false, false, false, false, false, false, false, false] rfl rfl (one_of HT_.out (by kernel_rfl)) (by decide) (fun K hK => ?_)
             refine goes_ Tryd.func22 (by kernel_rfl) rfl #[.int .i64 ((rd_T25 t166 0).f0)] (by rfl) rfl rfl (by (try simp only [List.map_toArray, List.map_cons, List.map_nil]); first | done | rfl | (simp only [List.length_drop, List.length_take]; rfl)) ?_
             with_reducible refine (wageofficelaw27_number.calls kj27 ((rd_T25 t166 0).f0) t185 _ A35.out).mono ?_
             rintro e w48 ⟨rfl, hb⟩
             have HS0_ := (hb.cell (World.block_lt_of_cell? _ _ (hHeld.1))).trans (hHeld.1)
             have HS1_ := (hb.cell (World.block_lt_of_cell? _ _ (hHeld.2.1))).trans (hHeld.2.1)
             have HS2_ := (hb.cell (World.block_lt_of_cell? _ _ (hHeld.2.2.1))).trans (hHeld.2.2.1)
             have HS3_ := (hb.cell (World.block_lt_of_cell? _ _ (hHeld.2.2.2.1))).trans (hHeld.2.2.2.1)
             have HS4_ := (hb.cell (World.block_lt_of_cell? _ _ (hHeld.2.2.2.2.1))).trans (hHeld.2.2.2.2.1)
             have HS5_ := (hb.cell (World.block_lt_of_cell? _ _ (hHeld.2.2.2.2.2.1))).trans (hHeld.2.2.2.2.2.1)
             have HS6_ := (hb.cell (World.block_lt_of_cell? _ _ (hHeld.2.2.2.2.2.2.1))).trans (hHeld.2.2.2.2.2.2.1)
             have HS7_ := (hb.cell (World.block_lt_of_cell? _ _ (hHeld.2.2.2.2.2.2.2.1))).trans (hHeld.2.2.2.2.2.2.2.1)
             have HS8_ := (hb.cell (World.block_lt_of_cell? _ _ (hHeld.2.2.2.2.2.2.2.2.1))).trans (hHeld.2.2.2.2.2.2.2.2.1)
             have HS9_ := (hb.cell (World.block_lt_of_cell? _ _ (hHeld.2.2.2.2.2.2.2.2.2.1))).trans (hHeld.2.2.2.2.2.2.2.2.2.1)
             have HS10_ := (hb.cell (World.block_lt_of_cell? _ _ (hHeld.2.2.2.2.2.2.2.2.2.2.1))).trans (hHeld.2.2.2.2.2.2.2.2.2.2.1)
             have HS11_ := (hb.cell (World.block_lt_of_cell? _ _ (hHeld.2.2.2.2.2.2.2.2.2.2.2.1))).trans (hHeld.2.2.2.2.2.2.2.2.2.2.2.1)
             have HS12_ := (hb.cell (World.block_lt_of_cell? _ _ (hHeld.2.2.2.2.2.2.2.2.2.2.2.2.1))).trans (hHeld.2.2.2.2.2.2.2.2.2.2.2.2.1)
             have HS13_ := (hb.cell (World.block_lt_of_cell? _ _ (hHeld.2.2.2.2.2.2.2.2.2.2.2.2.2.1))).trans (hHeld.2.2.2.2.2.2.2.2.2.2.2.2.2.1)
             have HS14_ := (hb.cell (World.block_lt_of_cell? _ _ (hHeld.2.2.2.2.2.2.2.2.2.2.2.2.2.2.1))).trans (hHeld.2.2.2.2.2.2.2.2.2.2.2.2.2.2.1)
             have HS15_ := (hb.cell (World.block_lt_of_cell? _ _ (hHeld.2.2.2.2.2.2.2.2.2.2.2.2.2.2.2.1))).trans (hHeld.2.2.2.2.2.2.2.2.2.2.2.2.2.2.2.1)
             have HS16_ := (hb.cell (World.block_lt_of_cell? _ _ (hHeld.2.2.2.2.2.2.2.2.2.2.2.2.2.2.2.2.1))).trans (hHeld.2.2.2.2.2.2.2.2.2.2.2.2.2.2.2.2.1)
             have HS17_ := (hb.cell (World.block_lt_of_cell? _ _ (hHeld.2.2.2.2.2.2.2.2.2.2.2.2.2.2.2.2.2.1))).trans (hHeld.2.2.2.2.2.2.2.2.2.2.2.2.2.2.2.2.2.1)
             have HS18_ := (hb.cell (World.block_lt_of_cell? _ _ (hHeld.2.2.2.2.2.2.2.2.2.2.2.2.2.2.2.2.2.2.1))).trans (hHeld.2.2.2.2.2.2.2.2.2.2.2.2.2.2.2.2.2.2.1)
             have HS19_ := (hb.cell (World.block_lt_of_cell? _ _ (hHeld.2.2.2.2.2.2.2.2.2.2.2.2.2.2.2.2.2.2.2.1))).trans (hHeld.2.2.2.2.2.2.2.2.2.2.2.2.2.2.2.2.2.2.2.1)
             have HS20_ := (hb.cell (World.block_lt_of_cell? _ _ (hHeld.2.2.2.2.2.2.2.2.2.2.2.2.2.2.2.2.2.2.2.2.1))).trans (hHeld.2.2.2.2.2.2.2.2.2.2.2.2.2.2.2.2.2.2.2.2.1)
             have HS21_ := (hb.cell (World.block_lt_of_cell? _ _ (hHeld.2.2.2.2.2.2.2.2.2.2.2.2.2.2.2.2.2.2.2.2.2.1))).trans (hHeld.2.2.2.2.2.2.2.2.2.2.2.2.2.2.2.2.2.2.2.2.2.1)
             have HS22_ := (hb.cell (World.block_lt_of_cell? _ _ (hHeld.2.2.2.2.2.2.2.2.2.2.2.2.2.2.2.2.2.2.2.2.2.2.1))).trans (hHeld.2.2.2.2.2.2.2.2.2.2.2.2.2.2.2.2.2.2.2.2.2.2.1)
             have HS23_ := (hb.cell (World.block_lt_of_cell? _ _ (hHeld.2.2.2.2.2.2.2.2.2.2.2.2.2.2.2.2.2.2.2.2.2.2.2.1))).trans (hHeld.2.2.2.2.2.2.2.2.2.2.2.2.2.2.2.2.2.2.2.2.2.2.2.1)
             have HS24_ := (hb.cell (World.block_lt_of_cell? _ _ (hHeld.2.2.2.2.2.2.2.2.2.2.2.2.2.2.2.2.2.2.2.2.2.2.2.2.1))).trans (hHeld.2.2.2.2.2.2.2.2.2.2.2.2.2.2.2.2.2.2.2.2.2.2.2.2.1)
             have HS25_ := (hb.cell (World.block_lt_of_cell? _ _ (hHeld.2.2.2.2.2.2.2.2.2.2.2.2.2.2.2.2.2.2.2.2.2.2.2.2.2.1))).trans (hHeld.2.2.2.2.2.2.2.2.2.2.2.2.2.2.2.2.2.2.2.2.2.2.2.2.2.1)
             have HS26_ := (hb.cell (World.block_lt_of_cell? _ _ (hHeld.2.2.2.2.2.2.2.2.2.2.2.2.2.2.2.2.2.2.2.2.2.2.2.2.2.2.1))).trans (hHeld.2.2.2.2.2.2.2.2.2.2.2.2.2.2.2.2.2.2.2.2.2.2.2.2.2.2.1)
             have HS27_ := (hb.cell (World.block_lt_of_cell? _ _ (hHeld.2.2.2.2.2.2.2.2.2.2.2.2.2.2.2.2.2.2.2.2.2.2.2.2.2.2.2.1))).trans (hHeld.2.2.2.2.2.2.2.2.2.2.2.2.2.2.2.2.2.2.2.2.2.2.2.2.2.2.2.1)
             have HS28_ := (hb.cell (World.block_lt_of_cell? _ _ (hHeld.2.2.2.2.2.2.2.2.2.2.2.2.2.2.2.2.2.2.2.2.2.2.2.2.2.2.2.2.1))).trans (hHeld.2.2.2.2.2.2.2.2.2.2.2.2.2.2.2.2.2.2.2.2.2.2.2.2.2.2.2.2.1)
             have HS29_ := (hb.cell (World.block_lt_of_cell? _ _ (hHeld.2.2.2.2.2.2.2.2.2.2.2.2.2.2.2.2.2.2.2.2.2.2.2.2.2.2.2.2.2.1))).trans (hHeld.2.2.2.2.2.2.2.2.2.2.2.2.2.2.2.2.2.2.2.2.2.2.2.2.2.2.2.2.2.1)
             have HS30_ := (hb.cell (World.block_lt_of_cell? _ _ (hHeld.2.2.2.2.2.2.2.2.2.2.2.2.2.2.2.2.2.2.2.2.2.2.2.2.2.2.2.2.2.2.1))).trans (hHeld.2.2.2.2.2.2.2.2.2.2.2.2.2.2.2.2.2.2.2.2.2.2.2.2.2.2.2.2.2.2.1)
             have HS31_ := (hb.cell (World.block_lt_of_cell? _ _ (hHeld.2.2.2.2.2.2.2.2.2.2.2.2.2.2.2.2.2.2.2.2.2.2.2.2.2.2.2.2.2.2.2.1))).trans (hHeld.2.2.2.2.2.2.2.2.2.2.2.2.2.2.2.2.2.2.2.2.2.2.2.2.2.2.2.2.2.2.2.1)
             have HS32_ := (hb.cell (World.block_lt_of_cell? _ _ (hHeld.2.2.2.2.2.2.2.2.2.2.2.2.2.2.2.2.2.2.2.2.2.2.2.2.2.2.2.2.2.2.2.2.1))).trans (hHeld.2.2.2.2.2.2.2.2.2.2.2.2.2.2.2.2.2.2.2.2.2.2.2.2.2.2.2.2.2.2.2.2.1)
             have HS33_ := (hb.cell (World.block_lt_of_cell? _ _ (hHeld.2.2.2.2.2.2.2.2.2.2.2.2.2.2.2.2.2.2.2.2.2.2.2.2.2.2.2.2.2.2.2.2.2.1))).trans (hHeld.2.2.2.2.2.2.2.2.2.2.2.2.2.2.2.2.2.2.2.2.2.2.2.2.2.2.2.2.2.2.2.2.2.1)
             have HS34_ := (hb.cell (World.block_lt_of_cell? _ _ (hHeld.2.2.2.2.2.2.2.2.2.2.2.2.2.2.2.2.2.2.2.2.2.2.2.2.2.2.2.2.2.2.2.2.2.2))).trans (hHeld.2.2.2.2.2.2.2.2.2.2.2.2.2.2.2.2.2.2.2.2.2.2.2.2.2.2.2.2.2.2.2.2.2.2)
             refine ⟨_, rfl, ?_⟩
             have n0_ := Aside0.mk (Kd.R_below (by (with_reducible repeat (first | apply Kd.R_alloc | apply Kd.R_drewN | apply Kd.R_drew)); exact HO_5.out) hb)
             have n1_ := Aside0.mk (below_step (by repeat (first | (with_reducible first | exact HB.out | apply below_alloc | apply pw_below_drewN | apply below_drew1) | exact HB.out)) hb)
             clear HO_5
             clear HB
             have HO_5 := n0_
             have HB := n1_
             clear n0_ n1_
             (try clear hb)
             (try clear hb2)
             (try clear hk)
             (try clear hi)
             refine hK.out _ _ ⟨HS0_, HS1_, HS2_, HS3_, HS4_, HS5_, HS6_, HS7_, HS8_, HS9_, HS10_, HS11_, HS12_, HS13_, HS14_, HS15_, HS16_, HS17_, HS18_, HS19_, HS20_, HS21_, HS22_, HS23_, HS24_, HS25_, HS26_, HS27_, HS28_, HS29_, HS30_, HS31_, HS32_, HS33_, HS34_⟩ (fun hHeld => ?_)
             clear hK K
             refine norm_ (a' := ?_) ?_ ?_
             rotate_left
             ·show Act.put _ (some 97) _ = _
              simp only [Act.put, List.setIfInBounds_toArray, List.set_cons_zero, List.set_cons_succ, i64_w, i32_w]
              rfl
             refine pure_ (i := 20) (N := some 98) (v := ?_) (a' := ?_) #[true, true, true, true, true, true, true, true, true, true, true, true, true, true, true, true, true, true, true, true, true, false, true, true, true, true, true, false, false, false, true, true, true, true, true, false, false, false, false, false, false, false, false] rfl rfl (any_of HT_.out (by kernel_rfl)) (fun _ _ _ h => h) (Or.inl ⟨by rfl, ?_⟩) ?_ ?_
             rotate_left
             ·intro w'
              go_simp
              with_reducible rfl
             rotate_left
             ·simp only [Act.put, List.setIfInBounds_toArray, List.set_cons_zero, List.set_cons_succ, i64_w, i32_w]
              rfl
             refine pure_ (i := 21) (N := some 99) (v := ?_) (a' := ?_) #[true, true, true, true, true, true, true, true, true, true, true, true, true, true, true, true, true, true, true, true, true, true, true, true, true, true, true, false, false, false, true, true, true, true, true, false, false, false, false, false, false, false, false] rfl rfl (any_of HT_.out (by kernel_rfl)) (fun _ _ _ h => h) (Or.inl ⟨by rfl, ?_⟩) ?_ ?_
             rotate_left
             ·intro w'
              go_simp
              with_reducible rfl
             rotate_left
             ·simp only [Act.put, List.setIfInBounds_toArray, List.set_cons_zero, List.set_cons_succ, i64_w, i32_w]
              rfl
             refine one_ (i := 27) (N := some 105) #[true, true, true, true, true, true, true, true, true, true, true, true, true, true, true, true, true, true, true, true, true, true, true, true, true, true, true, true, false, false, true, true, true, true, true, false, false, false, false, false, false, false, false] rfl rfl (one_of HT_.out (by kernel_rfl)) (by decide) (fun K hK => ?_)
             refine goes_ Tryd.func22 (by kernel_rfl) rfl #[.int .i64 ((rd_T25 t166 0).f1.f0)] (by rfl) rfl rfl (by (try simp only [List.map_toArray, List.map_cons, List.map_nil]); first | done | rfl | (simp only [List.length_drop, List.length_take]; rfl)) ?_
             with_reducible refine (wageofficelaw27_number.calls kj27 ((rd_T25 t166 0).f1.f0) t187 _ A38.out).mono ?_
             rintro e w49 ⟨rfl, hb⟩
             have HS0_ := (hb.cell (World.block_lt_of_cell? _ _ (hHeld.1))).trans (hHeld.1)
             have HS1_ := (hb.cell (World.block_lt_of_cell? _ _ (hHeld.2.1))).trans (hHeld.2.1)
             have HS2_ := (hb.cell (World.block_lt_of_cell? _ _ (hHeld.2.2.1))).trans (hHeld.2.2.1)
             have HS3_ := (hb.cell (World.block_lt_of_cell? _ _ (hHeld.2.2.2.1))).trans (hHeld.2.2.2.1)
             have HS4_ := (hb.cell (World.block_lt_of_cell? _ _ (hHeld.2.2.2.2.1))).trans (hHeld.2.2.2.2.1)
             have HS5_ := (hb.cell (World.block_lt_of_cell? _ _ (hHeld.2.2.2.2.2.1))).trans (hHeld.2.2.2.2.2.1)
             have HS6_ := (hb.cell (World.block_lt_of_cell? _ _ (hHeld.2.2.2.2.2.2.1))).trans (hHeld.2.2.2.2.2.2.1)
             have HS7_ := (hb.cell (World.block_lt_of_cell? _ _ (hHeld.2.2.2.2.2.2.2.1))).trans (hHeld.2.2.2.2.2.2.2.1)
             have HS8_ := (hb.cell (World.block_lt_of_cell? _ _ (hHeld.2.2.2.2.2.2.2.2.1))).trans (hHeld.2.2.2.2.2.2.2.2.1)
             have HS9_ := (hb.cell (World.block_lt_of_cell? _ _ (hHeld.2.2.2.2.2.2.2.2.2.1))).trans (hHeld.2.2.2.2.2.2.2.2.2.1)
             have HS10_ := (hb.cell (World.block_lt_of_cell? _ _ (hHeld.2.2.2.2.2.2.2.2.2.2.1))).trans (hHeld.2.2.2.2.2.2.2.2.2.2.1)
             have HS11_ := (hb.cell (World.block_lt_of_cell? _ _ (hHeld.2.2.2.2.2.2.2.2.2.2.2.1))).trans (hHeld.2.2.2.2.2.2.2.2.2.2.2.1)
             have HS12_ := (hb.cell (World.block_lt_of_cell? _ _ (hHeld.2.2.2.2.2.2.2.2.2.2.2.2.1))).trans (hHeld.2.2.2.2.2.2.2.2.2.2.2.2.1)
             have HS13_ := (hb.cell (World.block_lt_of_cell? _ _ (hHeld.2.2.2.2.2.2.2.2.2.2.2.2.2.1))).trans (hHeld.2.2.2.2.2.2.2.2.2.2.2.2.2.1)
             have HS14_ := (hb.cell (World.block_lt_of_cell? _ _ (hHeld.2.2.2.2.2.2.2.2.2.2.2.2.2.2.1))).trans (hHeld.2.2.2.2.2.2.2.2.2.2.2.2.2.2.1)
             have HS15_ := (hb.cell (World.block_lt_of_cell? _ _ (hHeld.2.2.2.2.2.2.2.2.2.2.2.2.2.2.2.1))).trans (hHeld.2.2.2.2.2.2.2.2.2.2.2.2.2.2.2.1)
             have HS16_ := (hb.cell (World.block_lt_of_cell? _ _ (hHeld.2.2.2.2.2.2.2.2.2.2.2.2.2.2.2.2.1))).trans (hHeld.2.2.2.2.2.2.2.2.2.2.2.2.2.2.2.2.1)
             have HS17_ := (hb.cell (World.block_lt_of_cell? _ _ (hHeld.2.2.2.2.2.2.2.2.2.2.2.2.2.2.2.2.2.1))).trans (hHeld.2.2.2.2.2.2.2.2.2.2.2.2.2.2.2.2.2.1)
             have HS18_ := (hb.cell (World.block_lt_of_cell? _ _ (hHeld.2.2.2.2.2.2.2.2.2.2.2.2.2.2.2.2.2.2.1))).trans (hHeld.2.2.2.2.2.2.2.2.2.2.2.2.2.2.2.2.2.2.1)
             have HS19_ := (hb.cell (World.block_lt_of_cell? _ _ (hHeld.2.2.2.2.2.2.2.2.2.2.2.2.2.2.2.2.2.2.2.1))).trans (hHeld.2.2.2.2.2.2.2.2.2.2.2.2.2.2.2.2.2.2.2.1)
             have HS20_ := (hb.cell (World.block_lt_of_cell? _ _ (hHeld.2.2.2.2.2.2.2.2.2.2.2.2.2.2.2.2.2.2.2.2.1))).trans (hHeld.2.2.2.2.2.2.2.2.2.2.2.2.2.2.2.2.2.2.2.2.1)
             have HS21_ := (hb.cell (World.block_lt_of_cell? _ _ (hHeld.2.2.2.2.2.2.2.2.2.2.2.2.2.2.2.2.2.2.2.2.2.1))).trans (hHeld.2.2.2.2.2.2.2.2.2.2.2.2.2.2.2.2.2.2.2.2.2.1)
             have HS22_ := (hb.cell (World.block_lt_of_cell? _ _ (hHeld.2.2.2.2.2.2.2.2.2.2.2.2.2.2.2.2.2.2.2.2.2.2.1))).trans (hHeld.2.2.2.2.2.2.2.2.2.2.2.2.2.2.2.2.2.2.2.2.2.2.1)
             have HS23_ := (hb.cell (World.block_lt_of_cell? _ _ (hHeld.2.2.2.2.2.2.2.2.2.2.2.2.2.2.2.2.2.2.2.2.2.2.2.1))).trans (hHeld.2.2.2.2.2.2.2.2.2.2.2.2.2.2.2.2.2.2.2.2.2.2.2.1)
             have HS24_ := (hb.cell (World.block_lt_of_cell? _ _ (hHeld.2.2.2.2.2.2.2.2.2.2.2.2.2.2.2.2.2.2.2.2.2.2.2.2.1))).trans (hHeld.2.2.2.2.2.2.2.2.2.2.2.2.2.2.2.2.2.2.2.2.2.2.2.2.1)
             have HS25_ := (hb.cell (World.block_lt_of_cell? _ _ (hHeld.2.2.2.2.2.2.2.2.2.2.2.2.2.2.2.2.2.2.2.2.2.2.2.2.2.1))).trans (hHeld.2.2.2.2.2.2.2.2.2.2.2.2.2.2.2.2.2.2.2.2.2.2.2.2.2.1)
             have HS26_ := (hb.cell (World.block_lt_of_cell? _ _ (hHeld.2.2.2.2.2.2.2.2.2.2.2.2.2.2.2.2.2.2.2.2.2.2.2.2.2.2.1))).trans (hHeld.2.2.2.2.2.2.2.2.2.2.2.2.2.2.2.2.2.2.2.2.2.2.2.2.2.2.1)
             have HS27_ := (hb.cell (World.block_lt_of_cell? _ _ (hHeld.2.2.2.2.2.2.2.2.2.2.2.2.2.2.2.2.2.2.2.2.2.2.2.2.2.2.2.1))).trans (hHeld.2.2.2.2.2.2.2.2.2.2.2.2.2.2.2.2.2.2.2.2.2.2.2.2.2.2.2.1)
             have HS28_ := (hb.cell (World.block_lt_of_cell? _ _ (hHeld.2.2.2.2.2.2.2.2.2.2.2.2.2.2.2.2.2.2.2.2.2.2.2.2.2.2.2.2.1))).trans (hHeld.2.2.2.2.2.2.2.2.2.2.2.2.2.2.2.2.2.2.2.2.2.2.2.2.2.2.2.2.1)
             have HS29_ := (hb.cell (World.block_lt_of_cell? _ _ (hHeld.2.2.2.2.2.2.2.2.2.2.2.2.2.2.2.2.2.2.2.2.2.2.2.2.2.2.2.2.2.1))).trans (hHeld.2.2.2.2.2.2.2.2.2.2.2.2.2.2.2.2.2.2.2.2.2.2.2.2.2.2.2.2.2.1)
             have HS30_ := (hb.cell (World.block_lt_of_cell? _ _ (hHeld.2.2.2.2.2.2.2.2.2.2.2.2.2.2.2.2.2.2.2.2.2.2.2.2.2.2.2.2.2.2.1))).trans (hHeld.2.2.2.2.2.2.2.2.2.2.2.2.2.2.2.2.2.2.2.2.2.2.2.2.2.2.2.2.2.2.1)
             have HS31_ := (hb.cell (World.block_lt_of_cell? _ _ (hHeld.2.2.2.2.2.2.2.2.2.2.2.2.2.2.2.2.2.2.2.2.2.2.2.2.2.2.2.2.2.2.2.1))).trans (hHeld.2.2.2.2.2.2.2.2.2.2.2.2.2.2.2.2.2.2.2.2.2.2.2.2.2.2.2.2.2.2.2.1)
             have HS32_ := (hb.cell (World.block_lt_of_cell? _ _ (hHeld.2.2.2.2.2.2.2.2.2.2.2.2.2.2.2.2.2.2.2.2.2.2.2.2.2.2.2.2.2.2.2.2.1))).trans (hHeld.2.2.2.2.2.2.2.2.2.2.2.2.2.2.2.2.2.2.2.2.2.2.2.2.2.2.2.2.2.2.2.2.1)
             have HS33_ := (hb.cell (World.block_lt_of_cell? _ _ (hHeld.2.2.2.2.2.2.2.2.2.2.2.2.2.2.2.2.2.2.2.2.2.2.2.2.2.2.2.2.2.2.2.2.2.1))).trans (hHeld.2.2.2.2.2.2.2.2.2.2.2.2.2.2.2.2.2.2.2.2.2.2.2.2.2.2.2.2.2.2.2.2.2.1)
             have HS34_ := (hb.cell (World.block_lt_of_cell? _ _ (hHeld.2.2.2.2.2.2.2.2.2.2.2.2.2.2.2.2.2.2.2.2.2.2.2.2.2.2.2.2.2.2.2.2.2.2))).trans (hHeld.2.2.2.2.2.2.2.2.2.2.2.2.2.2.2.2.2.2.2.2.2.2.2.2.2.2.2.2.2.2.2.2.2.2)
             refine ⟨_, rfl, ?_⟩
             have n0_ := Aside0.mk (Kd.R_below (by (with_reducible repeat (first | apply Kd.R_alloc | apply Kd.R_drewN | apply Kd.R_drew)); exact HO_5.out) hb)
             have n1_ := Aside0.mk (below_step (by repeat (first | (with_reducible first | exact HB.out | apply below_alloc | apply pw_below_drewN | apply below_drew1) | exact HB.out)) hb)
             clear HO_5
             clear HB
             have HO_5 := n0_
             have HB := n1_
             clear n0_ n1_
             (try clear hb)
             (try clear hb2)
             (try clear hk)
             (try clear hi)
             refine hK.out _ _ ⟨HS0_, HS1_, HS2_, HS3_, HS4_, HS5_, HS6_, HS7_, HS8_, HS9_, HS10_, HS11_, HS12_, HS13_, HS14_, HS15_, HS16_, HS17_, HS18_, HS19_, HS20_, HS21_, HS22_, HS23_, HS24_, HS25_, HS26_, HS27_, HS28_, HS29_, HS30_, HS31_, HS32_, HS33_, HS34_⟩ (fun hHeld => ?_)
             clear hK K
             refine norm_ (a' := ?_) ?_ ?_
             rotate_left
             ·show Act.put _ (some 105) _ = _
              simp only [Act.put, List.setIfInBounds_toArray, List.set_cons_zero, List.set_cons_succ, i64_w, i32_w]
              rfl
             refine pure_ (i := 28) (N := some 106) (v := ?_) (a' := ?_) #[true, true, true, true, true, true, true, true, true, true, true, true, true, true, true, true, true, true, true, true, true, true, true, true, true, true, true, true, true, false, true, true, true, true, true, false, false, false, false, false, false, false, false] rfl rfl (any_of HT_.out (by kernel_rfl)) (fun _ _ _ h => h) (Or.inl ⟨by rfl, ?_⟩) ?_ ?_
             rotate_left
             ·intro w'
              go_simp
              with_reducible rfl
             rotate_left
             ·simp only [Act.put, List.setIfInBounds_toArray, List.set_cons_zero, List.set_cons_succ, i64_w, i32_w]
              rfl
             refine pure_ (i := 29) (N := some 107) (v := ?_) (a' := ?_) #[true, true, true, true, true, true, true, true, true, true, true, true, true, true, true, true, true, true, true, true, true, true, true, true, true, true, true, true, true, true, true, true, true, true, true, false, false, false, false, false, false, false, false] rfl rfl (any_of HT_.out (by kernel_rfl)) (fun _ _ _ h => h) (Or.inl ⟨by rfl, ?_⟩) ?_ ?_
             rotate_left
             ·intro w'
              go_simp
              with_reducible rfl
             rotate_left
             ·simp only [Act.put, List.setIfInBounds_toArray, List.set_cons_zero, List.set_cons_succ, i64_w, i32_w]
              rfl
             refine one_ (i := 35) (N := some 113) #[true, true, true, true, true, true, true, true, true, true, true, true, true, true, true, true, true, true, true, true, true, true, true, true, true, true, true, true, true, true, true, true, true, true, true, true, false, false, false, false, false, false, false] rfl rfl (one_of HT_.out (by kernel_rfl)) (by decide) (fun K hK => ?_)
             refine goes_ Tryd.func22 (by kernel_rfl) rfl #[.int .i64 ((rd_T25 t166 0).f1.f1)] (by rfl) rfl rfl (by (try simp only [List.map_toArray, List.map_cons, List.map_nil]); first | done | rfl | (simp only [List.length_drop, List.length_take]; rfl)) ?_
             with_reducible refine (wageofficelaw27_number.calls kj27 ((rd_T25 t166 0).f1.f1) t189 _ A41.out).mono ?_
             rintro e w50 ⟨rfl, hb⟩
             have HS0_ := (hb.cell (World.block_lt_of_cell? _ _ (hHeld.1))).trans (hHeld.1)
             have HS1_ := (hb.cell (World.block_lt_of_cell? _ _ (hHeld.2.1))).trans (hHeld.2.1)
             have HS2_ := (hb.cell (World.block_lt_of_cell? _ _ (hHeld.2.2.1))).trans (hHeld.2.2.1)
             have HS3_ := (hb.cell (World.block_lt_of_cell? _ _ (hHeld.2.2.2.1))).trans (hHeld.2.2.2.1)
             have HS4_ := (hb.cell (World.block_lt_of_cell? _ _ (hHeld.2.2.2.2.1))).trans (hHeld.2.2.2.2.1)
             have HS5_ := (hb.cell (World.block_lt_of_cell? _ _ (hHeld.2.2.2.2.2.1))).trans (hHeld.2.2.2.2.2.1)
             have HS6_ := (hb.cell (World.block_lt_of_cell? _ _ (hHeld.2.2.2.2.2.2.1))).trans (hHeld.2.2.2.2.2.2.1)
             have HS7_ := (hb.cell (World.block_lt_of_cell? _ _ (hHeld.2.2.2.2.2.2.2.1))).trans (hHeld.2.2.2.2.2.2.2.1)
             have HS8_ := (hb.cell (World.block_lt_of_cell? _ _ (hHeld.2.2.2.2.2.2.2.2.1))).trans (hHeld.2.2.2.2.2.2.2.2.1)
             have HS9_ := (hb.cell (World.block_lt_of_cell? _ _ (hHeld.2.2.2.2.2.2.2.2.2.1))).trans (hHeld.2.2.2.2.2.2.2.2.2.1)
             have HS10_ := (hb.cell (World.block_lt_of_cell? _ _ (hHeld.2.2.2.2.2.2.2.2.2.2.1))).trans (hHeld.2.2.2.2.2.2.2.2.2.2.1)
             have HS11_ := (hb.cell (World.block_lt_of_cell? _ _ (hHeld.2.2.2.2.2.2.2.2.2.2.2.1))).trans (hHeld.2.2.2.2.2.2.2.2.2.2.2.1)
             have HS12_ := (hb.cell (World.block_lt_of_cell? _ _ (hHeld.2.2.2.2.2.2.2.2.2.2.2.2.1))).trans (hHeld.2.2.2.2.2.2.2.2.2.2.2.2.1)
             have HS13_ := (hb.cell (World.block_lt_of_cell? _ _ (hHeld.2.2.2.2.2.2.2.2.2.2.2.2.2.1))).trans (hHeld.2.2.2.2.2.2.2.2.2.2.2.2.2.1)
             have HS14_ := (hb.cell (World.block_lt_of_cell? _ _ (hHeld.2.2.2.2.2.2.2.2.2.2.2.2.2.2.1))).trans (hHeld.2.2.2.2.2.2.2.2.2.2.2.2.2.2.1)
             have HS15_ := (hb.cell (World.block_lt_of_cell? _ _ (hHeld.2.2.2.2.2.2.2.2.2.2.2.2.2.2.2.1))).trans (hHeld.2.2.2.2.2.2.2.2.2.2.2.2.2.2.2.1)
             have HS16_ := (hb.cell (World.block_lt_of_cell? _ _ (hHeld.2.2.2.2.2.2.2.2.2.2.2.2.2.2.2.2.1))).trans (hHeld.2.2.2.2.2.2.2.2.2.2.2.2.2.2.2.2.1)
             have HS17_ := (hb.cell (World.block_lt_of_cell? _ _ (hHeld.2.2.2.2.2.2.2.2.2.2.2.2.2.2.2.2.2.1))).trans (hHeld.2.2.2.2.2.2.2.2.2.2.2.2.2.2.2.2.2.1)
             have HS18_ := (hb.cell (World.block_lt_of_cell? _ _ (hHeld.2.2.2.2.2.2.2.2.2.2.2.2.2.2.2.2.2.2.1))).trans (hHeld.2.2.2.2.2.2.2.2.2.2.2.2.2.2.2.2.2.2.1)
             have HS19_ := (hb.cell (World.block_lt_of_cell? _ _ (hHeld.2.2.2.2.2.2.2.2.2.2.2.2.2.2.2.2.2.2.2.1))).trans (hHeld.2.2.2.2.2.2.2.2.2.2.2.2.2.2.2.2.2.2.2.1)
             have HS20_ := (hb.cell (World.block_lt_of_cell? _ _ (hHeld.2.2.2.2.2.2.2.2.2.2.2.2.2.2.2.2.2.2.2.2.1))).trans (hHeld.2.2.2.2.2.2.2.2.2.2.2.2.2.2.2.2.2.2.2.2.1)
             have HS21_ := (hb.cell (World.block_lt_of_cell? _ _ (hHeld.2.2.2.2.2.2.2.2.2.2.2.2.2.2.2.2.2.2.2.2.2.1))).trans (hHeld.2.2.2.2.2.2.2.2.2.2.2.2.2.2.2.2.2.2.2.2.2.1)
             have HS22_ := (hb.cell (World.block_lt_of_cell? _ _ (hHeld.2.2.2.2.2.2.2.2.2.2.2.2.2.2.2.2.2.2.2.2.2.2.1))).trans (hHeld.2.2.2.2.2.2.2.2.2.2.2.2.2.2.2.2.2.2.2.2.2.2.1)
             have HS23_ := (hb.cell (World.block_lt_of_cell? _ _ (hHeld.2.2.2.2.2.2.2.2.2.2.2.2.2.2.2.2.2.2.2.2.2.2.2.1))).trans (hHeld.2.2.2.2.2.2.2.2.2.2.2.2.2.2.2.2.2.2.2.2.2.2.2.1)
             have HS24_ := (hb.cell (World.block_lt_of_cell? _ _ (hHeld.2.2.2.2.2.2.2.2.2.2.2.2.2.2.2.2.2.2.2.2.2.2.2.2.1))).trans (hHeld.2.2.2.2.2.2.2.2.2.2.2.2.2.2.2.2.2.2.2.2.2.2.2.2.1)
             have HS25_ := (hb.cell (World.block_lt_of_cell? _ _ (hHeld.2.2.2.2.2.2.2.2.2.2.2.2.2.2.2.2.2.2.2.2.2.2.2.2.2.1))).trans (hHeld.2.2.2.2.2.2.2.2.2.2.2.2.2.2.2.2.2.2.2.2.2.2.2.2.2.1)
             have HS26_ := (hb.cell (World.block_lt_of_cell? _ _ (hHeld.2.2.2.2.2.2.2.2.2.2.2.2.2.2.2.2.2.2.2.2.2.2.2.2.2.2.1))).trans (hHeld.2.2.2.2.2.2.2.2.2.2.2.2.2.2.2.2.2.2.2.2.2.2.2.2.2.2.1)
             have HS27_ := (hb.cell (World.block_lt_of_cell? _ _ (hHeld.2.2.2.2.2.2.2.2.2.2.2.2.2.2.2.2.2.2.2.2.2.2.2.2.2.2.2.1))).trans (hHeld.2.2.2.2.2.2.2.2.2.2.2.2.2.2.2.2.2.2.2.2.2.2.2.2.2.2.2.1)
             have HS28_ := (hb.cell (World.block_lt_of_cell? _ _ (hHeld.2.2.2.2.2.2.2.2.2.2.2.2.2.2.2.2.2.2.2.2.2.2.2.2.2.2.2.2.1))).trans (hHeld.2.2.2.2.2.2.2.2.2.2.2.2.2.2.2.2.2.2.2.2.2.2.2.2.2.2.2.2.1)
             have HS29_ := (hb.cell (World.block_lt_of_cell? _ _ (hHeld.2.2.2.2.2.2.2.2.2.2.2.2.2.2.2.2.2.2.2.2.2.2.2.2.2.2.2.2.2.1))).trans (hHeld.2.2.2.2.2.2.2.2.2.2.2.2.2.2.2.2.2.2.2.2.2.2.2.2.2.2.2.2.2.1)
             have HS30_ := (hb.cell (World.block_lt_of_cell? _ _ (hHeld.2.2.2.2.2.2.2.2.2.2.2.2.2.2.2.2.2.2.2.2.2.2.2.2.2.2.2.2.2.2.1))).trans (hHeld.2.2.2.2.2.2.2.2.2.2.2.2.2.2.2.2.2.2.2.2.2.2.2.2.2.2.2.2.2.2.1)
             have HS31_ := (hb.cell (World.block_lt_of_cell? _ _ (hHeld.2.2.2.2.2.2.2.2.2.2.2.2.2.2.2.2.2.2.2.2.2.2.2.2.2.2.2.2.2.2.2.1))).trans (hHeld.2.2.2.2.2.2.2.2.2.2.2.2.2.2.2.2.2.2.2.2.2.2.2.2.2.2.2.2.2.2.2.1)
             have HS32_ := (hb.cell (World.block_lt_of_cell? _ _ (hHeld.2.2.2.2.2.2.2.2.2.2.2.2.2.2.2.2.2.2.2.2.2.2.2.2.2.2.2.2.2.2.2.2.1))).trans (hHeld.2.2.2.2.2.2.2.2.2.2.2.2.2.2.2.2.2.2.2.2.2.2.2.2.2.2.2.2.2.2.2.2.1)
             have HS33_ := (hb.cell (World.block_lt_of_cell? _ _ (hHeld.2.2.2.2.2.2.2.2.2.2.2.2.2.2.2.2.2.2.2.2.2.2.2.2.2.2.2.2.2.2.2.2.2.1))).trans (hHeld.2.2.2.2.2.2.2.2.2.2.2.2.2.2.2.2.2.2.2.2.2.2.2.2.2.2.2.2.2.2.2.2.2.1)
             have HS34_ := (hb.cell (World.block_lt_of_cell? _ _ (hHeld.2.2.2.2.2.2.2.2.2.2.2.2.2.2.2.2.2.2.2.2.2.2.2.2.2.2.2.2.2.2.2.2.2.2))).trans (hHeld.2.2.2.2.2.2.2.2.2.2.2.2.2.2.2.2.2.2.2.2.2.2.2.2.2.2.2.2.2.2.2.2.2.2)
             refine ⟨_, rfl, ?_⟩
             have n0_ := Aside0.mk (Kd.R_below (by (with_reducible repeat (first | apply Kd.R_alloc | apply Kd.R_drewN | apply Kd.R_drew)); exact HO_5.out) hb)
             have n1_ := Aside0.mk (below_step (by repeat (first | (with_reducible first | exact HB.out | apply below_alloc | apply pw_below_drewN | apply below_drew1) | exact HB.out)) hb)
             clear HO_5
             clear HB
             have HO_5 := n0_
             have HB := n1_
             clear n0_ n1_
             (try clear hb)
             (try clear hb2)
             (try clear hk)
             (try clear hi)
             refine hK.out _ _ ⟨HS0_, HS1_, HS2_, HS3_, HS4_, HS5_, HS6_, HS7_, HS8_, HS9_, HS10_, HS11_, HS12_, HS13_, HS14_, HS15_, HS16_, HS17_, HS18_, HS19_, HS20_, HS21_, HS22_, HS23_, HS24_, HS25_, HS26_, HS27_, HS28_, HS29_, HS30_, HS31_, HS32_, HS33_, HS34_⟩ (fun hHeld => ?_)
             clear hK K
             refine norm_ (a' := ?_) ?_ ?_
             rotate_left
             ·show Act.put _ (some 113) _ = _
              simp only [Act.put, List.setIfInBounds_toArray, List.set_cons_zero, List.set_cons_succ, i64_w, i32_w]
              rfl
             refine pure_ (i := 36) (N := some 114) (v := ?_) (a' := ?_) #[true, true, true, true, true, true, true, true, true, true, true, true, true, true, true, true, true, true, true, true, true, true, true, true, true, true, true, true, true, true, true, true, true, true, true, true, true, false, false, false, false, false, false] rfl rfl (any_of HT_.out (by kernel_rfl)) (fun _ _ _ h => h) (Or.inl ⟨by rfl, ?_⟩) ?_ ?_
             rotate_left
             ·intro w'
              go_simp
              with_reducible rfl
             rotate_left
             ·simp only [Act.put, List.setIfInBounds_toArray, List.set_cons_zero, List.set_cons_succ, i64_w, i32_w]
              rfl
             refine one_ (i := 37) (N := some 115) #[true, true, true, true, true, true, true, true, true, true, true, true, true, true, true, true, true, true, true, true, true, true, true, true, true, true, true, true, true, true, true, true, true, true, true, true, true, true, false, false, false, false, false] rfl rfl (one_of HT_.out (by kernel_rfl)) (by decide) (fun K hK => ?_)
             refine goes_ Tryd.func21 (by kernel_rfl) rfl #[.string ((((((⟨#[99, 32]⟩ : ByteArray) ++ t185) ++ (⟨#[32]⟩ : ByteArray)) ++ t187) ++ (⟨#[32]⟩ : ByteArray)) ++ t189)] (by rfl) rfl rfl (by (try simp only [List.map_toArray, List.map_cons, List.map_nil]); first | done | rfl | (simp only [List.length_drop, List.length_take]; rfl)) ?_
             with_reducible refine (digest_Sum.calls ((((((⟨#[99, 32]⟩ : ByteArray) ++ t185) ++ (⟨#[32]⟩ : ByteArray)) ++ t187) ++ (⟨#[32]⟩ : ByteArray)) ++ t189) t190 _ A43.out).mono ?_
             rintro e w51 ⟨rfl, hb⟩
             have HS0_ := (hb.cell (World.block_lt_of_cell? _ _ (hHeld.1))).trans (hHeld.1)
             have HS1_ := (hb.cell (World.block_lt_of_cell? _ _ (hHeld.2.1))).trans (hHeld.2.1)
             have HS2_ := (hb.cell (World.block_lt_of_cell? _ _ (hHeld.2.2.1))).trans (hHeld.2.2.1)
             have HS3_ := (hb.cell (World.block_lt_of_cell? _ _ (hHeld.2.2.2.1))).trans (hHeld.2.2.2.1)
             have HS4_ := (hb.cell (World.block_lt_of_cell? _ _ (hHeld.2.2.2.2.1))).trans (hHeld.2.2.2.2.1)
             have HS5_ := (hb.cell (World.block_lt_of_cell? _ _ (hHeld.2.2.2.2.2.1))).trans (hHeld.2.2.2.2.2.1)
             have HS6_ := (hb.cell (World.block_lt_of_cell? _ _ (hHeld.2.2.2.2.2.2.1))).trans (hHeld.2.2.2.2.2.2.1)
             have HS7_ := (hb.cell (World.block_lt_of_cell? _ _ (hHeld.2.2.2.2.2.2.2.1))).trans (hHeld.2.2.2.2.2.2.2.1)
             have HS8_ := (hb.cell (World.block_lt_of_cell? _ _ (hHeld.2.2.2.2.2.2.2.2.1))).trans (hHeld.2.2.2.2.2.2.2.2.1)
             have HS9_ := (hb.cell (World.block_lt_of_cell? _ _ (hHeld.2.2.2.2.2.2.2.2.2.1))).trans (hHeld.2.2.2.2.2.2.2.2.2.1)
             have HS10_ := (hb.cell (World.block_lt_of_cell? _ _ (hHeld.2.2.2.2.2.2.2.2.2.2.1))).trans (hHeld.2.2.2.2.2.2.2.2.2.2.1)
             have HS11_ := (hb.cell (World.block_lt_of_cell? _ _ (hHeld.2.2.2.2.2.2.2.2.2.2.2.1))).trans (hHeld.2.2.2.2.2.2.2.2.2.2.2.1)
             have HS12_ := (hb.cell (World.block_lt_of_cell? _ _ (hHeld.2.2.2.2.2.2.2.2.2.2.2.2.1))).trans (hHeld.2.2.2.2.2.2.2.2.2.2.2.2.1)
             have HS13_ := (hb.cell (World.block_lt_of_cell? _ _ (hHeld.2.2.2.2.2.2.2.2.2.2.2.2.2.1))).trans (hHeld.2.2.2.2.2.2.2.2.2.2.2.2.2.1)
             have HS14_ := (hb.cell (World.block_lt_of_cell? _ _ (hHeld.2.2.2.2.2.2.2.2.2.2.2.2.2.2.1))).trans (hHeld.2.2.2.2.2.2.2.2.2.2.2.2.2.2.1)
             have HS15_ := (hb.cell (World.block_lt_of_cell? _ _ (hHeld.2.2.2.2.2.2.2.2.2.2.2.2.2.2.2.1))).trans (hHeld.2.2.2.2.2.2.2.2.2.2.2.2.2.2.2.1)
             have HS16_ := (hb.cell (World.block_lt_of_cell? _ _ (hHeld.2.2.2.2.2.2.2.2.2.2.2.2.2.2.2.2.1))).trans (hHeld.2.2.2.2.2.2.2.2.2.2.2.2.2.2.2.2.1)
             have HS17_ := (hb.cell (World.block_lt_of_cell? _ _ (hHeld.2.2.2.2.2.2.2.2.2.2.2.2.2.2.2.2.2.1))).trans (hHeld.2.2.2.2.2.2.2.2.2.2.2.2.2.2.2.2.2.1)
             have HS18_ := (hb.cell (World.block_lt_of_cell? _ _ (hHeld.2.2.2.2.2.2.2.2.2.2.2.2.2.2.2.2.2.2.1))).trans (hHeld.2.2.2.2.2.2.2.2.2.2.2.2.2.2.2.2.2.2.1)
             have HS19_ := (hb.cell (World.block_lt_of_cell? _ _ (hHeld.2.2.2.2.2.2.2.2.2.2.2.2.2.2.2.2.2.2.2.1))).trans (hHeld.2.2.2.2.2.2.2.2.2.2.2.2.2.2.2.2.2.2.2.1)
             have HS20_ := (hb.cell (World.block_lt_of_cell? _ _ (hHeld.2.2.2.2.2.2.2.2.2.2.2.2.2.2.2.2.2.2.2.2.1))).trans (hHeld.2.2.2.2.2.2.2.2.2.2.2.2.2.2.2.2.2.2.2.2.1)
             have HS21_ := (hb.cell (World.block_lt_of_cell? _ _ (hHeld.2.2.2.2.2.2.2.2.2.2.2.2.2.2.2.2.2.2.2.2.2.1))).trans (hHeld.2.2.2.2.2.2.2.2.2.2.2.2.2.2.2.2.2.2.2.2.2.1)
             have HS22_ := (hb.cell (World.block_lt_of_cell? _ _ (hHeld.2.2.2.2.2.2.2.2.2.2.2.2.2.2.2.2.2.2.2.2.2.2.1))).trans (hHeld.2.2.2.2.2.2.2.2.2.2.2.2.2.2.2.2.2.2.2.2.2.2.1)
             have HS23_ := (hb.cell (World.block_lt_of_cell? _ _ (hHeld.2.2.2.2.2.2.2.2.2.2.2.2.2.2.2.2.2.2.2.2.2.2.2.1))).trans (hHeld.2.2.2.2.2.2.2.2.2.2.2.2.2.2.2.2.2.2.2.2.2.2.2.1)
             have HS24_ := (hb.cell (World.block_lt_of_cell? _ _ (hHeld.2.2.2.2.2.2.2.2.2.2.2.2.2.2.2.2.2.2.2.2.2.2.2.2.1))).trans (hHeld.2.2.2.2.2.2.2.2.2.2.2.2.2.2.2.2.2.2.2.2.2.2.2.2.1)
             have HS25_ := (hb.cell (World.block_lt_of_cell? _ _ (hHeld.2.2.2.2.2.2.2.2.2.2.2.2.2.2.2.2.2.2.2.2.2.2.2.2.2.1))).trans (hHeld.2.2.2.2.2.2.2.2.2.2.2.2.2.2.2.2.2.2.2.2.2.2.2.2.2.1)
             have HS26_ := (hb.cell (World.block_lt_of_cell? _ _ (hHeld.2.2.2.2.2.2.2.2.2.2.2.2.2.2.2.2.2.2.2.2.2.2.2.2.2.2.1))).trans (hHeld.2.2.2.2.2.2.2.2.2.2.2.2.2.2.2.2.2.2.2.2.2.2.2.2.2.2.1)
             have HS27_ := (hb.cell (World.block_lt_of_cell? _ _ (hHeld.2.2.2.2.2.2.2.2.2.2.2.2.2.2.2.2.2.2.2.2.2.2.2.2.2.2.2.1))).trans (hHeld.2.2.2.2.2.2.2.2.2.2.2.2.2.2.2.2.2.2.2.2.2.2.2.2.2.2.2.1)
             have HS28_ := (hb.cell (World.block_lt_of_cell? _ _ (hHeld.2.2.2.2.2.2.2.2.2.2.2.2.2.2.2.2.2.2.2.2.2.2.2.2.2.2.2.2.1))).trans (hHeld.2.2.2.2.2.2.2.2.2.2.2.2.2.2.2.2.2.2.2.2.2.2.2.2.2.2.2.2.1)
             have HS29_ := (hb.cell (World.block_lt_of_cell? _ _ (hHeld.2.2.2.2.2.2.2.2.2.2.2.2.2.2.2.2.2.2.2.2.2.2.2.2.2.2.2.2.2.1))).trans (hHeld.2.2.2.2.2.2.2.2.2.2.2.2.2.2.2.2.2.2.2.2.2.2.2.2.2.2.2.2.2.1)
             have HS30_ := (hb.cell (World.block_lt_of_cell? _ _ (hHeld.2.2.2.2.2.2.2.2.2.2.2.2.2.2.2.2.2.2.2.2.2.2.2.2.2.2.2.2.2.2.1))).trans (hHeld.2.2.2.2.2.2.2.2.2.2.2.2.2.2.2.2.2.2.2.2.2.2.2.2.2.2.2.2.2.2.1)
             have HS31_ := (hb.cell (World.block_lt_of_cell? _ _ (hHeld.2.2.2.2.2.2.2.2.2.2.2.2.2.2.2.2.2.2.2.2.2.2.2.2.2.2.2.2.2.2.2.1))).trans (hHeld.2.2.2.2.2.2.2.2.2.2.2.2.2.2.2.2.2.2.2.2.2.2.2.2.2.2.2.2.2.2.2.1)
             have HS32_ := (hb.cell (World.block_lt_of_cell? _ _ (hHeld.2.2.2.2.2.2.2.2.2.2.2.2.2.2.2.2.2.2.2.2.2.2.2.2.2.2.2.2.2.2.2.2.1))).trans (hHeld.2.2.2.2.2.2.2.2.2.2.2.2.2.2.2.2.2.2.2.2.2.2.2.2.2.2.2.2.2.2.2.2.1)
             have HS33_ := (hb.cell (World.block_lt_of_cell? _ _ (hHeld.2.2.2.2.2.2.2.2.2.2.2.2.2.2.2.2.2.2.2.2.2.2.2.2.2.2.2.2.2.2.2.2.2.1))).trans (hHeld.2.2.2.2.2.2.2.2.2.2.2.2.2.2.2.2.2.2.2.2.2.2.2.2.2.2.2.2.2.2.2.2.2.1)
             have HS34_ := (hb.cell (World.block_lt_of_cell? _ _ (hHeld.2.2.2.2.2.2.2.2.2.2.2.2.2.2.2.2.2.2.2.2.2.2.2.2.2.2.2.2.2.2.2.2.2.2))).trans (hHeld.2.2.2.2.2.2.2.2.2.2.2.2.2.2.2.2.2.2.2.2.2.2.2.2.2.2.2.2.2.2.2.2.2.2)
             refine ⟨_, rfl, ?_⟩
             have n0_ := Aside0.mk (Kd.R_below (by (with_reducible repeat (first | apply Kd.R_alloc | apply Kd.R_drewN | apply Kd.R_drew)); exact HO_5.out) hb)
             have n1_ := Aside0.mk (below_step (by repeat (first | (with_reducible first | exact HB.out | apply below_alloc | apply pw_below_drewN | apply below_drew1) | exact HB.out)) hb)
             clear HO_5
             clear HB
             have HO_5 := n0_
             have HB := n1_
             clear n0_ n1_
             (try clear hb)
             (try clear hb2)
             (try clear hk)
             (try clear hi)
             refine hK.out _ _ ⟨HS0_, HS1_, HS2_, HS3_, HS4_, HS5_, HS6_, HS7_, HS8_, HS9_, HS10_, HS11_, HS12_, HS13_, HS14_, HS15_, HS16_, HS17_, HS18_, HS19_, HS20_, HS21_, HS22_, HS23_, HS24_, HS25_, HS26_, HS27_, HS28_, HS29_, HS30_, HS31_, HS32_, HS33_, HS34_⟩ (fun hHeld => ?_)
             clear hK K
             refine norm_ (a' := ?_) ?_ ?_
             rotate_left
             ·show Act.put _ (some 115) _ = _
              simp only [Act.put, List.setIfInBounds_toArray, List.set_cons_zero, List.set_cons_succ, i64_w, i32_w]
              rfl
             refine pure_ (i := 38) (N := some 116) (v := ?_) (a' := ?_) #[true, true, true, true, true, true, true, true, true, true, true, true, true, true, true, true, true, true, true, true, true, true, true, true, true, true, true, true, true, true, true, true, true, true, true, true, true, true, true, false, false, false, false] rfl rfl (any_of HT_.out (by kernel_rfl)) (fun _ _ _ h => h) (Or.inl ⟨by rfl, ?_⟩) ?_ ?_
             rotate_left
             ·intro w'
              go_simp
              with_reducible rfl
             rotate_left
             ·simp only [Act.put, List.setIfInBounds_toArray, List.set_cons_zero, List.set_cons_succ, i64_w, i32_w]
              rfl
             refine pure_ (i := 39) (N := some 117) (v := ?_) (a' := ?_) #[true, true, true, true, true, true, true, true, true, true, true, true, true, true, true, true, true, true, true, true, true, true, true, true, true, true, true, true, true, true, true, true, true, true, true, true, true, true, true, true, false, false, false] rfl rfl (any_of HT_.out (by kernel_rfl)) (fun _ _ _ h => h) (Or.inl ⟨by rfl, ?_⟩) ?_ ?_
             rotate_left
             ·intro w'
              go_simp
              with_reducible rfl
             rotate_left
             ·simp only [Act.put, List.setIfInBounds_toArray, List.set_cons_zero, List.set_cons_succ, i64_w, i32_w]
              rfl
             refine pure_ (i := 40) (N := some 118) (v := ?_) (a' := ?_) #[true, true, true, true, true, true, true, true, true, true, true, true, true, true, true, true, true, true, true, true, true, true, true, true, true, true, true, true, true, true, true, true, true, true, true, true, true, true, true, true, true, false, false] rfl rfl (any_of HT_.out (by kernel_rfl)) (fun _ _ _ h => h) (Or.inl ⟨by rfl, ?_⟩) ?_ ?_
             rotate_left
             ·intro w'
              go_simp
              with_reducible rfl
             rotate_left
             ·simp only [Act.put, List.setIfInBounds_toArray, List.set_cons_zero, List.set_cons_succ, i64_w, i32_w]
              rfl
             refine pure_ (i := 41) (N := some 119) (v := ?_) (a' := ?_) #[true, true, true, true, true, true, true, true, true, true, true, true, true, true, true, true, true, true, true, true, true, true, true, true, true, true, true, true, true, true, true, true, true, true, true, true, true, true, true, true, true, true, false] rfl rfl (any_of HT_.out (by kernel_rfl)) (fun _ _ _ h => h) (Or.inl ⟨by rfl, ?_⟩) ?_ ?_
             rotate_left
             ·intro w'
              go_simp
              with_reducible rfl
             rotate_left
             ·simp only [Act.put, List.setIfInBounds_toArray, List.set_cons_zero, List.set_cons_succ, i64_w, i32_w]
              rfl
             refine pure_ (i := 42) (N := some 0) (v := ?_) (a' := ?_) #[true, true, true, true, true, true, true, true, true, true, true, true, true, true, true, true, true, true, true, true, true, true, true, true, true, true, true, true, true, true, true, true, true, true, true, true, true, true, true, true, true, true, true] rfl rfl (any_of HT_.out (by kernel_rfl)) (fun _ _ _ h => h) (Or.inl ⟨by rfl, ?_⟩) ?_ ?_
             rotate_left
             ·intro w'
              go_simp
              with_reducible rfl
             rotate_left
             ·simp only [Act.put, List.setIfInBounds_toArray, List.set_cons_zero, List.set_cons_succ, i64_w, i32_w]
              rfl
             refine done_ (done_of HT_.out (by kernel_rfl)) ?_
             try go_wp2
             go_ret
             exact ⟨by first | rfl | (simp [errW_none, errW_some] <;> rfl) | (simp [*, errW_none, errW_some] <;> rfl), by repeat (first | (with_reducible first | exact HB.out | apply below_alloc | apply pw_below_drewN | apply below_drew1) | exact HB.out)⟩
            ·rw [if_neg c42] at H
             exact absurd H (by simp)
           ·rw [if_neg c40] at H
            exact absurd H (by simp)
          ·rw [if_neg c39] at H
           exact absurd H (by simp)
         ·rw [if_neg c37] at H
          exact absurd H (by simp)
        ·rw [if_neg c36] at H
         exact absurd H (by simp)
      ·rw [if_neg c32] at H
       exact absurd H (by simp)

/-! ### wageofficelaw27_head: its contract -/
def wageofficelaw27_head.f (k : Nat) : Option Bool := if wageofficelaw27_head0.f k = some true then some true else none
theorem wageofficelaw27_head.true_ {k : Nat} (h : wageofficelaw27_head0.f k = some true) : wageofficelaw27_head.f k = some true := by unfold wageofficelaw27_head.f; rw [if_pos h]
theorem wageofficelaw27_head.mono : ∀ k, LeO (wageofficelaw27_head.f k) (wageofficelaw27_head.f (k + 1)) := by
 intro k r h
 unfold wageofficelaw27_head.f at h ⊢
 split at h
 ·rename_i hs
  rw [if_pos (wageofficelaw27_head0.mono k _ hs)]
  exact h
 ·cases h
theorem wageofficelaw27_head.calls (k : Nat)  (r : Bool) (w : World) (h : wageofficelaw27_head.f k  = some r) (hTGen0 : TabGen w) (hTTen0 : TabTen w) :
  Calls Tryd.prog 9 #[] w fun e w' => e = .returned (.bool r) ∧ Below w.heap.size w w' := by
 unfold wageofficelaw27_head.f at h
 split at h
 ·rename_i hs
  cases h
  exact wageofficelaw27_head0.calls k true w rfl hs hTGen0 hTTen0
 ·cases h

end Go.Proofs.YtnlgnmlobklobaaDoor.PAll
