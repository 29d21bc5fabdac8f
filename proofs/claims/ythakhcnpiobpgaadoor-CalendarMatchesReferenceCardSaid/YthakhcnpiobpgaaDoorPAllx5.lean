-- Written by myprint.py over the kit's print.py (a printed text of this session's own make).
import Derived.Test.YthakhcnpiobpgaaDoorPAllx0
import Derived.Test.YthakhcnpiobpgaaDoorPAllx1
import Derived.Test.YthakhcnpiobpgaaDoorPAllx2
import Derived.Test.YthakhcnpiobpgaaDoorPAllx3
import Derived.Test.YthakhcnpiobpgaaDoorPAllx4
namespace Go.Proofs.YthakhcnpiobpgaaDoor.PAll
open Go.Proofs.YthakhcnpiobpgaaDoor.Stub Go.Proofs.YthakhcnpiobpgaaDoor.CalA
open Go.RowKit Go.Proofs.YthakhcnpiobpgaaDoorW.PrintWords Go.Proofs.YthakhcnpiobpgaaDoorW.PrintLast Go.Proofs.YthakhcnpiobpgaaDoorW.PrintMore
attribute [local go_sem] max2_int min2_int max_two min_two max_three min_three max_four min_four   -- for this text's walks alone
set_option linter.unusedVariables false
set_option linter.unusedSimpArgs false

/-! ### wageofficelaw02_CalendarMatchesReference: function 3 -/
mutual
def wageofficelaw02_CalendarMatchesReference.l0 : Nat → Int → ByteArray → Bool → List Int → Int → Int → Int → Int → Int → Option (Bool)
  | 0, _, _, _, _, _, _, _, _, _ => none
  | k + 1, x2, x3, x9, x37, x38, x39, x180000, x180001, x180002 => if x39 < x38 then (if 0 ≤ x39 then (if x39 < (x37.length : Int) then ((calendar_Date.f (rd x37 x39)).bind fun bt186 => ((wageofficeref02_Date.f k (rd x37 x39)).bind fun bt189 => ((calendar_Later.f k (rd x37 x39) x2).bind fun bt192 => ((wageofficeref02_Later.f k (rd x37 x39) x2).bind fun bt194 => (if x9 = true then (if bt186.1 = bt189.1 then (if bt186.2.1 = bt189.2.1 then (if bt186.2.2 = bt189.2.2 then (if bt192.1 = bt194.1 then (if bt192.2 = bt194.2 then ((calendar_Weekday.f (rd x37 x39)).bind fun t196 => ((wageofficeref02_Weekday.f k (rd x37 x39)).bind fun t197 => (if t196 = t197 then ((calendar_Month.f (rd x37 x39)).bind fun t198 => ((wageofficeref02_Month.f k (rd x37 x39)).bind fun t199 => (if t198 = t199 then ((calendar_Text.f k (rd x37 x39)).bind fun t200 => ((wageofficeref02_Text.f k (rd x37 x39)).bind fun t201 => (wageofficelaw02_CalendarMatchesReference.j1 k x2 x3 (t200.toList == t201.toList) (rd x37 x39) x37 x38 x39 x180000 x180001 x180002))) else (wageofficelaw02_CalendarMatchesReference.j1 k x2 x3 false (rd x37 x39) x37 x38 x39 x180000 x180001 x180002)))) else (wageofficelaw02_CalendarMatchesReference.j1 k x2 x3 false (rd x37 x39) x37 x38 x39 x180000 x180001 x180002)))) else (wageofficelaw02_CalendarMatchesReference.j1 k x2 x3 false (rd x37 x39) x37 x38 x39 x180000 x180001 x180002)) else (wageofficelaw02_CalendarMatchesReference.j1 k x2 x3 false (rd x37 x39) x37 x38 x39 x180000 x180001 x180002)) else (wageofficelaw02_CalendarMatchesReference.j1 k x2 x3 false (rd x37 x39) x37 x38 x39 x180000 x180001 x180002)) else (wageofficelaw02_CalendarMatchesReference.j1 k x2 x3 false (rd x37 x39) x37 x38 x39 x180000 x180001 x180002)) else (wageofficelaw02_CalendarMatchesReference.j1 k x2 x3 false (rd x37 x39) x37 x38 x39 x180000 x180001 x180002)) else (wageofficelaw02_CalendarMatchesReference.j1 k x2 x3 false (rd x37 x39) x37 x38 x39 x180000 x180001 x180002)))))) else (none)) else (none)) else ((wageofficelaw02_pick.f x180000 101).bind fun t206 => ((wageofficelaw02_pick.f x180001 14).bind fun t207 => ((wageofficelaw02_pick.f x180002 33).bind fun t208 => ((some (([(⟨x180000, x180001, x180002⟩ : S22), (⟨wrap64 (2000 + t206), t207, t208⟩ : S22)] : List (S22)) : List (S22))).bind fun y209 => (wageofficelaw02_CalendarMatchesReference.l1 k x2 x3 x9 y209 (y209.length : Int) 0)))))
def wageofficelaw02_CalendarMatchesReference.j1 : Nat → Int → ByteArray → Bool → Int → List Int → Int → Int → Int → Int → Int → Option (Bool)
  | 0, _, _, _, _, _, _, _, _, _, _ => none
  | k + 1, x2, x3, x9, x11, x37, x38, x39, x180000, x180001, x180002 => if x9 = true then ((calendar_First.f x11).bind fun t202 => ((wageofficeref02_First.f k x11).bind fun t203 => (if t202 = t203 then ((calendar_Length.f x11).bind fun t204 => ((wageofficeref02_Length.f k x11).bind fun t205 => (wageofficelaw02_CalendarMatchesReference.l0 k x2 x3 (t204 == t205) x37 x38 (wrap64 (x39 + 1)) x180000 x180001 x180002))) else (wageofficelaw02_CalendarMatchesReference.l0 k x2 x3 false x37 x38 (wrap64 (x39 + 1)) x180000 x180001 x180002)))) else (wageofficelaw02_CalendarMatchesReference.l0 k x2 x3 false x37 x38 (wrap64 (x39 + 1)) x180000 x180001 x180002)
def wageofficelaw02_CalendarMatchesReference.l1 : Nat → Int → ByteArray → Bool → List (S22) → Int → Int → Option (Bool)
  | 0, _, _, _, _, _, _ => none
  | k + 1, x2, x3, x9, x142, x143, x144 => if x144 < x143 then (if 0 ≤ x144 then (if x144 < (x142.length : Int) then ((calendar_Day.f ((rd_T22 x142 x144).f0) ((rd_T22 x142 x144).f1) ((rd_T22 x142 x144).f2)).bind fun bt214 => ((wageofficeref02_Day.f k ((rd_T22 x142 x144).f0) ((rd_T22 x142 x144).f1) ((rd_T22 x142 x144).f2)).bind fun bt216 => (if x9 = true then (if bt214.1 = bt216.1 then (wageofficelaw02_CalendarMatchesReference.l1 k x2 x3 (bt214.2 == bt216.2) x142 x143 (wrap64 (x144 + 1))) else (wageofficelaw02_CalendarMatchesReference.l1 k x2 x3 false x142 x143 (wrap64 (x144 + 1)))) else (wageofficelaw02_CalendarMatchesReference.l1 k x2 x3 false x142 x143 (wrap64 (x144 + 1)))))) else (none)) else (none)) else (if 0 ≤ (mn (x3.size : Int) 30) then (if (mn (x3.size : Int) 30) ≤ (x3.size : Int) then ((calendar_Parse.f (x3.extract 0 ((mn (x3.size : Int) 30) : Int).toNat)).bind fun bt218 => ((wageofficeref02_Parse.f k (x3.extract 0 ((mn (x3.size : Int) 30) : Int).toNat)).bind fun bt220 => ((wageofficelaw02_pick.f x2 1200).bind fun t222 => (if x9 = true then (if bt218.1 = bt220.1 then (if bt218.2 = bt220.2 then ((calendar_First.f t222).bind fun t223 => ((wageofficeref02_First.f k t222).bind fun t224 => (if t223 = t224 then ((calendar_Length.f t222).bind fun t225 => ((wageofficeref02_Length.f k t222).bind fun t226 => (some (t225 == t226)))) else (some false)))) else (some false)) else (some false)) else (some false))))) else (none)) else (none))
end
def wageofficelaw02_CalendarMatchesReference.f (k : Nat) (a0 : Int) (a1_0 : Int) (a1_1 : Int) (a1_2 : Int) (a2 : Int) (a3 : ByteArray) : Option (Bool) := (wageofficelaw02_head.f k).bind fun t180 => ((wageofficelaw02_pick.f a0 36525).bind fun t181 => ((some (([a0, t181] : List Int) : List Int)).bind fun y182 => (wageofficelaw02_CalendarMatchesReference.l0 k a2 a3 t180 y182 (y182.length : Int) 0 a1_0 a1_1 a1_2)))
theorem wageofficelaw02_CalendarMatchesReference.mono_l : ∀ k, (∀ y0 y1 y2 y3 y4 y5 y6 y7 y8, LeO (wageofficelaw02_CalendarMatchesReference.l0 k y0 y1 y2 y3 y4 y5 y6 y7 y8) (wageofficelaw02_CalendarMatchesReference.l0 (k + 1) y0 y1 y2 y3 y4 y5 y6 y7 y8)) ∧ (∀ y0 y1 y2 y3 y4 y5 y6 y7 y8 y9, LeO (wageofficelaw02_CalendarMatchesReference.j1 k y0 y1 y2 y3 y4 y5 y6 y7 y8 y9) (wageofficelaw02_CalendarMatchesReference.j1 (k + 1) y0 y1 y2 y3 y4 y5 y6 y7 y8 y9)) ∧ (∀ y0 y1 y2 y3 y4 y5, LeO (wageofficelaw02_CalendarMatchesReference.l1 k y0 y1 y2 y3 y4 y5) (wageofficelaw02_CalendarMatchesReference.l1 (k + 1) y0 y1 y2 y3 y4 y5))
  | 0 => ⟨fun _ _ _ _ _ _ _ _ _ r h => by simp [wageofficelaw02_CalendarMatchesReference.l0] at h, fun _ _ _ _ _ _ _ _ _ _ r h => by simp [wageofficelaw02_CalendarMatchesReference.j1] at h, fun _ _ _ _ _ _ r h => by simp [wageofficelaw02_CalendarMatchesReference.l1] at h⟩
  | k + 1 => by
    obtain ⟨ih0, ih1, ih2⟩ := wageofficelaw02_CalendarMatchesReference.mono_l k
    refine ⟨?_, ?_, ?_⟩
    · intro y0 y1 y2 y3 y4 y5 y6 y7 y8
      unfold wageofficelaw02_CalendarMatchesReference.l0
      repeat' first
      | (with_reducible exact ih0 _ _ _ _ _ _ _ _ _)
      | (with_reducible exact ih1 _ _ _ _ _ _ _ _ _ _)
      | (with_reducible exact ih2 _ _ _ _ _ _)
      | (with_reducible exact calendar_Later.mono _ _ _)
      | (with_reducible exact calendar_Text.mono _ _)
      | (with_reducible exact wageofficelaw02_head.mono _)
      | (with_reducible exact wageofficeref02_Date.mono _ _)
      | (with_reducible exact wageofficeref02_Day.mono _ _ _ _)
      | (with_reducible exact wageofficeref02_First.mono _ _)
      | (with_reducible exact wageofficeref02_Later.mono _ _ _)
      | (with_reducible exact wageofficeref02_Length.mono _ _)
      | (with_reducible exact wageofficeref02_Month.mono _ _)
      | (with_reducible exact wageofficeref02_Parse.mono _ _)
      | (with_reducible exact wageofficeref02_Text.mono _ _)
      | (with_reducible exact wageofficeref02_Weekday.mono _ _)
      | (with_reducible exact LeO.refl _)
      | (with_reducible exact LeO.none _)
      | (with_reducible refine LeO.ite ?_ ?_)
      | (with_reducible refine LeO.bind ?_ (fun _ => ?_))
      | exact ih0 _ _ _ _ _ _ _ _ _
      | exact ih1 _ _ _ _ _ _ _ _ _ _
      | exact ih2 _ _ _ _ _ _
      | exact calendar_Later.mono _ _ _
      | exact calendar_Text.mono _ _
      | exact wageofficelaw02_head.mono _
      | exact wageofficeref02_Date.mono _ _
      | exact wageofficeref02_Day.mono _ _ _ _
      | exact wageofficeref02_First.mono _ _
      | exact wageofficeref02_Later.mono _ _ _
      | exact wageofficeref02_Length.mono _ _
      | exact wageofficeref02_Month.mono _ _
      | exact wageofficeref02_Parse.mono _ _
      | exact wageofficeref02_Text.mono _ _
      | exact wageofficeref02_Weekday.mono _ _
      | exact LeO.none _
      | refine LeO.ite ?_ ?_
      | refine LeO.bind ?_ (fun _ => ?_)
    · intro y0 y1 y2 y3 y4 y5 y6 y7 y8 y9
      unfold wageofficelaw02_CalendarMatchesReference.j1
      repeat' first
      | (with_reducible exact ih0 _ _ _ _ _ _ _ _ _)
      | (with_reducible exact ih1 _ _ _ _ _ _ _ _ _ _)
      | (with_reducible exact ih2 _ _ _ _ _ _)
      | (with_reducible exact calendar_Later.mono _ _ _)
      | (with_reducible exact calendar_Text.mono _ _)
      | (with_reducible exact wageofficelaw02_head.mono _)
      | (with_reducible exact wageofficeref02_Date.mono _ _)
      | (with_reducible exact wageofficeref02_Day.mono _ _ _ _)
      | (with_reducible exact wageofficeref02_First.mono _ _)
      | (with_reducible exact wageofficeref02_Later.mono _ _ _)
      | (with_reducible exact wageofficeref02_Length.mono _ _)
      | (with_reducible exact wageofficeref02_Month.mono _ _)
      | (with_reducible exact wageofficeref02_Parse.mono _ _)
      | (with_reducible exact wageofficeref02_Text.mono _ _)
      | (with_reducible exact wageofficeref02_Weekday.mono _ _)
      | (with_reducible exact LeO.refl _)
      | (with_reducible exact LeO.none _)
      | (with_reducible refine LeO.ite ?_ ?_)
      | (with_reducible refine LeO.bind ?_ (fun _ => ?_))
      | exact ih0 _ _ _ _ _ _ _ _ _
      | exact ih1 _ _ _ _ _ _ _ _ _ _
      | exact ih2 _ _ _ _ _ _
      | exact calendar_Later.mono _ _ _
      | exact calendar_Text.mono _ _
      | exact wageofficelaw02_head.mono _
      | exact wageofficeref02_Date.mono _ _
      | exact wageofficeref02_Day.mono _ _ _ _
      | exact wageofficeref02_First.mono _ _
      | exact wageofficeref02_Later.mono _ _ _
      | exact wageofficeref02_Length.mono _ _
      | exact wageofficeref02_Month.mono _ _
      | exact wageofficeref02_Parse.mono _ _
      | exact wageofficeref02_Text.mono _ _
      | exact wageofficeref02_Weekday.mono _ _
      | exact LeO.none _
      | refine LeO.ite ?_ ?_
      | refine LeO.bind ?_ (fun _ => ?_)
    · intro y0 y1 y2 y3 y4 y5
      unfold wageofficelaw02_CalendarMatchesReference.l1
      repeat' first
      | (with_reducible exact ih0 _ _ _ _ _ _ _ _ _)
      | (with_reducible exact ih1 _ _ _ _ _ _ _ _ _ _)
      | (with_reducible exact ih2 _ _ _ _ _ _)
      | (with_reducible exact calendar_Later.mono _ _ _)
      | (with_reducible exact calendar_Text.mono _ _)
      | (with_reducible exact wageofficelaw02_head.mono _)
      | (with_reducible exact wageofficeref02_Date.mono _ _)
      | (with_reducible exact wageofficeref02_Day.mono _ _ _ _)
      | (with_reducible exact wageofficeref02_First.mono _ _)
      | (with_reducible exact wageofficeref02_Later.mono _ _ _)
      | (with_reducible exact wageofficeref02_Length.mono _ _)
      | (with_reducible exact wageofficeref02_Month.mono _ _)
      | (with_reducible exact wageofficeref02_Parse.mono _ _)
      | (with_reducible exact wageofficeref02_Text.mono _ _)
      | (with_reducible exact wageofficeref02_Weekday.mono _ _)
      | (with_reducible exact LeO.refl _)
      | (with_reducible exact LeO.none _)
      | (with_reducible refine LeO.ite ?_ ?_)
      | (with_reducible refine LeO.bind ?_ (fun _ => ?_))
      | exact ih0 _ _ _ _ _ _ _ _ _
      | exact ih1 _ _ _ _ _ _ _ _ _ _
      | exact ih2 _ _ _ _ _ _
      | exact calendar_Later.mono _ _ _
      | exact calendar_Text.mono _ _
      | exact wageofficelaw02_head.mono _
      | exact wageofficeref02_Date.mono _ _
      | exact wageofficeref02_Day.mono _ _ _ _
      | exact wageofficeref02_First.mono _ _
      | exact wageofficeref02_Later.mono _ _ _
      | exact wageofficeref02_Length.mono _ _
      | exact wageofficeref02_Month.mono _ _
      | exact wageofficeref02_Parse.mono _ _
      | exact wageofficeref02_Text.mono _ _
      | exact wageofficeref02_Weekday.mono _ _
      | exact LeO.none _
      | refine LeO.ite ?_ ?_
      | refine LeO.bind ?_ (fun _ => ?_)
theorem wageofficelaw02_CalendarMatchesReference.mono : ∀ a0 a1 a2 a3 a4 a5 k, LeO (wageofficelaw02_CalendarMatchesReference.f k a0 a1 a2 a3 a4 a5) (wageofficelaw02_CalendarMatchesReference.f (k + 1) a0 a1 a2 a3 a4 a5) := by
  intro a0 a1 a2 a3 a4 a5 k
  obtain ⟨ih0, ih1, ih2⟩ := wageofficelaw02_CalendarMatchesReference.mono_l k
  unfold wageofficelaw02_CalendarMatchesReference.f
  repeat' first
      | (with_reducible exact ih0 _ _ _ _ _ _ _ _ _)
      | (with_reducible exact ih1 _ _ _ _ _ _ _ _ _ _)
      | (with_reducible exact ih2 _ _ _ _ _ _)
      | (with_reducible exact calendar_Later.mono _ _ _)
      | (with_reducible exact calendar_Text.mono _ _)
      | (with_reducible exact wageofficelaw02_head.mono _)
      | (with_reducible exact wageofficeref02_Date.mono _ _)
      | (with_reducible exact wageofficeref02_Day.mono _ _ _ _)
      | (with_reducible exact wageofficeref02_First.mono _ _)
      | (with_reducible exact wageofficeref02_Later.mono _ _ _)
      | (with_reducible exact wageofficeref02_Length.mono _ _)
      | (with_reducible exact wageofficeref02_Month.mono _ _)
      | (with_reducible exact wageofficeref02_Parse.mono _ _)
      | (with_reducible exact wageofficeref02_Text.mono _ _)
      | (with_reducible exact wageofficeref02_Weekday.mono _ _)
      | (with_reducible exact LeO.refl _)
      | (with_reducible exact LeO.none _)
      | (with_reducible refine LeO.ite ?_ ?_)
      | (with_reducible refine LeO.bind ?_ (fun _ => ?_))
      | exact ih0 _ _ _ _ _ _ _ _ _
      | exact ih1 _ _ _ _ _ _ _ _ _ _
      | exact ih2 _ _ _ _ _ _
      | exact calendar_Later.mono _ _ _
      | exact calendar_Text.mono _ _
      | exact wageofficelaw02_head.mono _
      | exact wageofficeref02_Date.mono _ _
      | exact wageofficeref02_Day.mono _ _ _ _
      | exact wageofficeref02_First.mono _ _
      | exact wageofficeref02_Later.mono _ _ _
      | exact wageofficeref02_Length.mono _ _
      | exact wageofficeref02_Month.mono _ _
      | exact wageofficeref02_Parse.mono _ _
      | exact wageofficeref02_Text.mono _ _
      | exact wageofficeref02_Weekday.mono _ _
      | exact LeO.none _
      | refine LeO.ite ?_ ?_
      | refine LeO.bind ?_ (fun _ => ?_)
def wageofficelaw02_CalendarMatchesReference.T12 : Bool × List (List Nat × List Nat) := (true, [([], []), ([], []), ([1], [1]), ([2], [2]), ([3], [3]), ([], []), ([5], [5]), ([6, 3], [6]), ([], []), ([8], [8]), ([9, 7], [9]), ([4, 7, 10], [4, 7, 10]), ([0, 11], [0, 11]), ([12], [12]), ([], [])])
def wageofficelaw02_CalendarMatchesReference.B12 : List Nat := [0, 0, 2, 6, 14, 0, 32, 110, 0, 256, 1006, 2046, 4095, 8191, 0]
theorem wageofficelaw02_CalendarMatchesReference.tab12 : rtab .any (opsOf Tryd.f3 12) = wageofficelaw02_CalendarMatchesReference.T12 := by kernel_rfl
theorem wageofficelaw02_CalendarMatchesReference.bits12 : waitsOk wageofficelaw02_CalendarMatchesReference.T12.2 wageofficelaw02_CalendarMatchesReference.B12 = true := by kernel_rfl
set_option maxHeartbeats 8000000 in
set_option maxRecDepth 100000 in
theorem wageofficelaw02_CalendarMatchesReference.calls (k : Nat) (a0 : Int) (a1_0 : Int) (a1_1 : Int) (a1_2 : Int) (a2 : Int) (a3 : ByteArray) (r : Bool) (w : World) (h : wageofficelaw02_CalendarMatchesReference.f k a0 a1_0 a1_1 a1_2 a2 a3 = some r) (hTBefore0 : TabBefore w) :
    Calls Tryd.prog 3 #[.int .i64 a0, .agg #[.int .i64 a1_0, .int .i64 a1_1, .int .i64 a1_2], .int .i64 a2, .string a3] w fun e w' => e = .returned (.bool r) ∧ Below w.heap.size w w' := by
  have hTBefore := Aside0.mk hTBefore0
  clear hTBefore0
  have hu22 := Tryd.underlying22
  have HB := Aside0.mk (Below.refl w.heap.size w)
  have H : ((wageofficelaw02_head.f k).bind fun t180 => ((wageofficelaw02_pick.f a0 36525).bind fun t181 => ((some (([a0, t181] : List Int) : List Int)).bind fun y182 => (wageofficelaw02_CalendarMatchesReference.l0 k a2 a3 t180 y182 (y182.length : Int) 0 a1_0 a1_1 a1_2)))) = some r := h
  clear h
  replace H := Option.bind_eq_some_iff.mp H
  obtain ⟨t180, A50, H⟩ := H
  replace H : ((wageofficelaw02_pick.f a0 36525).bind fun t181 => ((some (([a0, t181] : List Int) : List Int)).bind fun y182 => (wageofficelaw02_CalendarMatchesReference.l0 k a2 a3 t180 y182 (y182.length : Int) 0 a1_0 a1_1 a1_2))) = some r := H
  have A5 := Aside0.mk A50
  clear A50
  replace H := Option.bind_eq_some_iff.mp H
  obtain ⟨t181, A60, H⟩ := H
  replace H : ((some (([a0, t181] : List Int) : List Int)).bind fun y182 => (wageofficelaw02_CalendarMatchesReference.l0 k a2 a3 t180 y182 (y182.length : Int) 0 a1_0 a1_1 a1_2)) = some r := H
  have A6 := Aside0.mk A60
  clear A60
  obtain ⟨y182, hy182⟩ : ∃ y_ : List Int, y_ = (([a0, t181] : List Int)) := ⟨_, rfl⟩
  replace H : (wageofficelaw02_CalendarMatchesReference.l0 k a2 a3 t180 y182 (y182.length : Int) 0 a1_0 a1_1 a1_2) = some r := by first | (rw [hy182]; with_reducible exact H) | (have H2_ := (Option.bind_some _ _).symm.trans H; rw [hy182]; with_reducible exact H2_) | (have H2_ := (Option.bind_some _ _).symm.trans H; with_reducible exact H2_) | with_reducible exact H | (rw [hy182]; exact H) | exact H
  have Ny182 := Aside0.mk hy182
  clear hy182
  have H' := Aside0.mk H
  clear H
  go_enter Tryd.func3, Tryd.ntmps3
  go_wp2_with (first | ((with_reducible refine gate_dst (N := 5) rfl ?_); refine box_event ?hg (N := 5) ?hd (cs := #[.int .i64 a1_0, .int .i64 a1_1, .int .i64 a1_2]) (t := 22) ?hr ?_; (case hd => rfl); (case hg => rfl); (case hr => first | (go_simp; done) | (go_simp; rfl)); intro gb179 hg w7 hbox hb; have n0_ := Aside0.mk (below_step (by repeat (first | (with_reducible first | exact HB.out | apply below_alloc | apply pw_below_drewN | apply below_drew1) | exact HB.out)) hb); have n1_ := Aside0.mk (hbox); have n2_ := Aside0.mk ((by rw [hg]; exact (below_size (by repeat (first | (with_reducible first | exact HB.out | apply below_alloc | apply pw_below_drewN | apply below_drew1) | exact HB.out))) : w.heap.size ≤ gb179)); have n3_ := Aside0.mk ((by rw [hg]; exact (below_size (by repeat (first | (with_reducible first | exact HB.out | apply below_alloc | apply pw_below_drewN | apply below_drew1) | exact HB.out))) : w.heap.size ≤ gb179)); clear HB; have HB := n0_; have BK179 := n1_; have GW179 := n2_; have GE179 := n3_; clear n0_ n1_ n2_ n3_; clear hb hbox hg) | ((with_reducible refine gate_callee (f := 9) rfl ?_); refine goesL_ (some 33) rfl rfl Tryd.func9 (by kernel_rfl) rfl #[] rfl (by (try simp only [List.map_toArray, List.map_cons, List.map_nil]); first | done | rfl | (simp only [List.length_drop, List.length_take]; rfl)) ?_; (with_reducible refine (wageofficelaw02_head.calls k  t180 _ A5.out (TabBefore.below hTBefore.out (by repeat (first | exact HB.out | exact Below.refl _ _ | apply below_alloc | apply pw_below_drewN | apply below_drew1 | apply below_drew | refine below_set ?_ GE179.out | refine below_set ?_ GE213.out)))).mono ?_); rintro e w8 ⟨rfl, hb⟩; refine ⟨_, rfl, ?_⟩; have n0_ := Aside0.mk (blk_below (g := gb179) (o := .cells #[.int .i64 a1_0, .int .i64 a1_1, .int .i64 a1_2] 22 (0, 0)) (by (with_reducible repeat (first | refine blk_drewN ?_ _ | refine blk_drew ?_ | refine blk_alloc ?_ _)); exact BK179.out) hb); have n1_ := Aside0.mk (below_step (by repeat (first | (with_reducible first | exact HB.out | apply below_alloc | apply pw_below_drewN | apply below_drew1 | refine below_set ?_ GE179.out) | exact HB.out)) hb); clear BK179; clear HB; have BK179 := n0_; have HB := n1_; clear n0_ n1_; (try clear hb); (try clear hb2); (try clear hk); (try clear hi)) | ((with_reducible refine gate_callee (f := 10) rfl ?_); refine goesL_ (some 36) rfl rfl Tryd.func10 (by kernel_rfl) rfl #[.int .i64 a0, .int .i64 36525] rfl (by (try simp only [List.map_toArray, List.map_cons, List.map_nil]); first | done | rfl | (simp only [List.length_drop, List.length_take]; rfl)) ?_; (with_reducible refine (wageofficelaw02_pick.calls a0 36525 t181 _ A6.out).mono ?_); rintro e w' ⟨rfl, ⟨nd, rfl⟩⟩; refine ⟨_, rfl, ?_⟩) | ((with_reducible refine gate_dst (N := 37) rfl ?_); refine Kd.R_lit (Kd.int .i64) _ 3 ?hg (N := 37) ?hd (xs := ([a0, t181] : List Int)) (inner := [.int .i64 a0, .int .i64 t181]) (ok := fun _ => True) (okp := fun _ => True) ?hr ?hp (fun _ hk => hk) trivial (Below.refl _ _) (Nat.le_refl _) (by simp) ?_; (case hd => rfl); (case hg => rfl); (case hr => first | (go_simp; done) | (go_simp; rfl)); (case hp => exact (Reps.one (show Kd.M (Kd.int .i64) _ _ _ a0 [.int .i64 a0] from rfl) (Reps.one (show Kd.M (Kd.int .i64) _ _ _ t181 [.int .i64 t181] from rfl) (Reps.none _ _)))); intro v183 w9 ho10 hb hg_ hnew_; clear hg_ hnew_; (first | rw [← Ny182.out] at ho10 | (simp only [Int.reduceToNat] at ho10; rw [← Ny182.out] at ho10)); have n0_ := Aside0.mk (Kd.R_lower ho10 (below_size (by repeat (first | (with_reducible first | exact HB.out | apply below_alloc | apply pw_below_drewN | apply below_drew1 | refine below_set ?_ GE179.out) | exact HB.out)))); have n1_ := Aside0.mk (blk_below (g := gb179) (o := .cells #[.int .i64 a1_0, .int .i64 a1_1, .int .i64 a1_2] 22 (0, 0)) (by (with_reducible repeat (first | refine blk_drewN ?_ _ | refine blk_drew ?_ | refine blk_alloc ?_ _)); exact BK179.out) hb); have n2_ := Aside0.mk (below_step (by repeat (first | (with_reducible first | exact HB.out | apply below_alloc | apply pw_below_drewN | apply below_drew1 | refine below_set ?_ GE179.out) | exact HB.out)) hb); clear BK179; clear HB; have HO184 := n0_; have BK179 := n1_; have HB := n2_; clear n0_ n1_ n2_; clear hb ho10; obtain ⟨Ao11, co11, eo11⟩ := Kd.R_slice HO184.out; subst eo11))
  go_loopg [9, 39] k (fun kq v9 v39 w' => ∃ (x9_1 : Bool) (x39_1 : Int), v9 = .bool x9_1 ∧ v39 = .int .i64 x39_1 ∧ Aside0 (wageofficelaw02_CalendarMatchesReference.l0 kq a2 a3 x9_1 y182 (y182.length : Int) x39_1 a1_0 a1_1 a1_2 = some r) ∧ Aside0 (kq ≤ k) ∧ Aside0 (Kd.R (Kd.int .i64) 3 w' w.heap.size (fun _ => True) (.slice Ao11 y182.length co11) y182) ∧ Aside0 (w'.heap[gb179]? = some (.cells #[.int .i64 a1_0, .int .i64 a1_1, .int .i64 a1_2] 22 (0, 0))) ∧ Aside0 (Below w.heap.size w w'))
  case atStart => exact ⟨(t180), (0), (by first | rfl | (simp; done) | (simp [*]; done)), (by first | rfl | (simp; done) | (simp [*]; done)), H', ⟨Nat.le_refl _⟩, ⟨by (with_reducible repeat (first | apply Kd.R_alloc | apply Kd.R_drewN | apply Kd.R_drew)); exact HO184.out⟩, ⟨by (with_reducible repeat (first | refine blk_drewN ?_ _ | refine blk_drew ?_ | refine blk_alloc ?_ _)); exact BK179.out⟩, ⟨by repeat (first | (with_reducible first | exact HB.out | apply below_alloc | apply pw_below_drewN | apply below_drew1 | refine below_set ?_ GE179.out) | exact HB.out)⟩⟩
  case round =>
    clear H'
    try clear c1
    try clear p2
    try clear c3
    try clear c9
    try clear c10
    obtain ⟨x9_1, x39_1, rfl, rfl, HA, HK1, HO_37, BK179, HB⟩ := hrel
    cases gk with
    | zero => exact absurd HA.out (by simp [wageofficelaw02_CalendarMatchesReference.l0])
    | succ k1 =>
      have H := HA.out
      clear HA
      simp only [wageofficelaw02_CalendarMatchesReference.l0] at H
      by_cases c12 : x39_1 < (y182.length : Int)
      · rw [if_pos c12] at H
        have c12b0 : decide (x39_1 < (y182.length : Int)) = true := decide_eq_true c12
        clear c12
        by_cases c13 : 0 ≤ x39_1
        · rw [if_pos c13] at H
          have c13b0 : decide (0 ≤ x39_1) = true := decide_eq_true c13
          clear c13
          by_cases c14 : x39_1 < (y182.length : Int)
          · rw [if_pos c14] at H
            have c14b0 : decide (x39_1 < (y182.length : Int)) = true := decide_eq_true c14
            clear c14
            replace H := Option.bind_eq_some_iff.mp H
            obtain ⟨⟨t186, t187, t188⟩, A150, H⟩ := H
            replace H : ((wageofficeref02_Date.f k1 (rd y182 x39_1)).bind fun bt189 => ((calendar_Later.f k1 (rd y182 x39_1) a2).bind fun bt192 => ((wageofficeref02_Later.f k1 (rd y182 x39_1) a2).bind fun bt194 => (if x9_1 = true then (if t186 = bt189.1 then (if t187 = bt189.2.1 then (if t188 = bt189.2.2 then (if bt192.1 = bt194.1 then (if bt192.2 = bt194.2 then ((calendar_Weekday.f (rd y182 x39_1)).bind fun t196 => ((wageofficeref02_Weekday.f k1 (rd y182 x39_1)).bind fun t197 => (if t196 = t197 then ((calendar_Month.f (rd y182 x39_1)).bind fun t198 => ((wageofficeref02_Month.f k1 (rd y182 x39_1)).bind fun t199 => (if t198 = t199 then ((calendar_Text.f k1 (rd y182 x39_1)).bind fun t200 => ((wageofficeref02_Text.f k1 (rd y182 x39_1)).bind fun t201 => (wageofficelaw02_CalendarMatchesReference.j1 k1 a2 a3 (t200.toList == t201.toList) (rd y182 x39_1) y182 (y182.length : Int) x39_1 a1_0 a1_1 a1_2))) else (wageofficelaw02_CalendarMatchesReference.j1 k1 a2 a3 false (rd y182 x39_1) y182 (y182.length : Int) x39_1 a1_0 a1_1 a1_2)))) else (wageofficelaw02_CalendarMatchesReference.j1 k1 a2 a3 false (rd y182 x39_1) y182 (y182.length : Int) x39_1 a1_0 a1_1 a1_2)))) else (wageofficelaw02_CalendarMatchesReference.j1 k1 a2 a3 false (rd y182 x39_1) y182 (y182.length : Int) x39_1 a1_0 a1_1 a1_2)) else (wageofficelaw02_CalendarMatchesReference.j1 k1 a2 a3 false (rd y182 x39_1) y182 (y182.length : Int) x39_1 a1_0 a1_1 a1_2)) else (wageofficelaw02_CalendarMatchesReference.j1 k1 a2 a3 false (rd y182 x39_1) y182 (y182.length : Int) x39_1 a1_0 a1_1 a1_2)) else (wageofficelaw02_CalendarMatchesReference.j1 k1 a2 a3 false (rd y182 x39_1) y182 (y182.length : Int) x39_1 a1_0 a1_1 a1_2)) else (wageofficelaw02_CalendarMatchesReference.j1 k1 a2 a3 false (rd y182 x39_1) y182 (y182.length : Int) x39_1 a1_0 a1_1 a1_2)) else (wageofficelaw02_CalendarMatchesReference.j1 k1 a2 a3 false (rd y182 x39_1) y182 (y182.length : Int) x39_1 a1_0 a1_1 a1_2))))) = some r := H
            have A15 := Aside0.mk A150
            clear A150
            replace H := Option.bind_eq_some_iff.mp H
            obtain ⟨⟨t189, t190, t191⟩, A160, H⟩ := H
            replace H : ((calendar_Later.f k1 (rd y182 x39_1) a2).bind fun bt192 => ((wageofficeref02_Later.f k1 (rd y182 x39_1) a2).bind fun bt194 => (if x9_1 = true then (if t186 = t189 then (if t187 = t190 then (if t188 = t191 then (if bt192.1 = bt194.1 then (if bt192.2 = bt194.2 then ((calendar_Weekday.f (rd y182 x39_1)).bind fun t196 => ((wageofficeref02_Weekday.f k1 (rd y182 x39_1)).bind fun t197 => (if t196 = t197 then ((calendar_Month.f (rd y182 x39_1)).bind fun t198 => ((wageofficeref02_Month.f k1 (rd y182 x39_1)).bind fun t199 => (if t198 = t199 then ((calendar_Text.f k1 (rd y182 x39_1)).bind fun t200 => ((wageofficeref02_Text.f k1 (rd y182 x39_1)).bind fun t201 => (wageofficelaw02_CalendarMatchesReference.j1 k1 a2 a3 (t200.toList == t201.toList) (rd y182 x39_1) y182 (y182.length : Int) x39_1 a1_0 a1_1 a1_2))) else (wageofficelaw02_CalendarMatchesReference.j1 k1 a2 a3 false (rd y182 x39_1) y182 (y182.length : Int) x39_1 a1_0 a1_1 a1_2)))) else (wageofficelaw02_CalendarMatchesReference.j1 k1 a2 a3 false (rd y182 x39_1) y182 (y182.length : Int) x39_1 a1_0 a1_1 a1_2)))) else (wageofficelaw02_CalendarMatchesReference.j1 k1 a2 a3 false (rd y182 x39_1) y182 (y182.length : Int) x39_1 a1_0 a1_1 a1_2)) else (wageofficelaw02_CalendarMatchesReference.j1 k1 a2 a3 false (rd y182 x39_1) y182 (y182.length : Int) x39_1 a1_0 a1_1 a1_2)) else (wageofficelaw02_CalendarMatchesReference.j1 k1 a2 a3 false (rd y182 x39_1) y182 (y182.length : Int) x39_1 a1_0 a1_1 a1_2)) else (wageofficelaw02_CalendarMatchesReference.j1 k1 a2 a3 false (rd y182 x39_1) y182 (y182.length : Int) x39_1 a1_0 a1_1 a1_2)) else (wageofficelaw02_CalendarMatchesReference.j1 k1 a2 a3 false (rd y182 x39_1) y182 (y182.length : Int) x39_1 a1_0 a1_1 a1_2)) else (wageofficelaw02_CalendarMatchesReference.j1 k1 a2 a3 false (rd y182 x39_1) y182 (y182.length : Int) x39_1 a1_0 a1_1 a1_2)))) = some r := H
            have A16 := Aside0.mk A160
            clear A160
            replace H := Option.bind_eq_some_iff.mp H
            obtain ⟨⟨t192, t193⟩, A170, H⟩ := H
            replace H : ((wageofficeref02_Later.f k1 (rd y182 x39_1) a2).bind fun bt194 => (if x9_1 = true then (if t186 = t189 then (if t187 = t190 then (if t188 = t191 then (if t192 = bt194.1 then (if t193 = bt194.2 then ((calendar_Weekday.f (rd y182 x39_1)).bind fun t196 => ((wageofficeref02_Weekday.f k1 (rd y182 x39_1)).bind fun t197 => (if t196 = t197 then ((calendar_Month.f (rd y182 x39_1)).bind fun t198 => ((wageofficeref02_Month.f k1 (rd y182 x39_1)).bind fun t199 => (if t198 = t199 then ((calendar_Text.f k1 (rd y182 x39_1)).bind fun t200 => ((wageofficeref02_Text.f k1 (rd y182 x39_1)).bind fun t201 => (wageofficelaw02_CalendarMatchesReference.j1 k1 a2 a3 (t200.toList == t201.toList) (rd y182 x39_1) y182 (y182.length : Int) x39_1 a1_0 a1_1 a1_2))) else (wageofficelaw02_CalendarMatchesReference.j1 k1 a2 a3 false (rd y182 x39_1) y182 (y182.length : Int) x39_1 a1_0 a1_1 a1_2)))) else (wageofficelaw02_CalendarMatchesReference.j1 k1 a2 a3 false (rd y182 x39_1) y182 (y182.length : Int) x39_1 a1_0 a1_1 a1_2)))) else (wageofficelaw02_CalendarMatchesReference.j1 k1 a2 a3 false (rd y182 x39_1) y182 (y182.length : Int) x39_1 a1_0 a1_1 a1_2)) else (wageofficelaw02_CalendarMatchesReference.j1 k1 a2 a3 false (rd y182 x39_1) y182 (y182.length : Int) x39_1 a1_0 a1_1 a1_2)) else (wageofficelaw02_CalendarMatchesReference.j1 k1 a2 a3 false (rd y182 x39_1) y182 (y182.length : Int) x39_1 a1_0 a1_1 a1_2)) else (wageofficelaw02_CalendarMatchesReference.j1 k1 a2 a3 false (rd y182 x39_1) y182 (y182.length : Int) x39_1 a1_0 a1_1 a1_2)) else (wageofficelaw02_CalendarMatchesReference.j1 k1 a2 a3 false (rd y182 x39_1) y182 (y182.length : Int) x39_1 a1_0 a1_1 a1_2)) else (wageofficelaw02_CalendarMatchesReference.j1 k1 a2 a3 false (rd y182 x39_1) y182 (y182.length : Int) x39_1 a1_0 a1_1 a1_2))) = some r := H
            have A17 := Aside0.mk A170
            clear A170
            replace H := Option.bind_eq_some_iff.mp H
            obtain ⟨⟨t194, t195⟩, A180, H⟩ := H
            replace H : (if x9_1 = true then (if t186 = t189 then (if t187 = t190 then (if t188 = t191 then (if t192 = t194 then (if t193 = t195 then ((calendar_Weekday.f (rd y182 x39_1)).bind fun t196 => ((wageofficeref02_Weekday.f k1 (rd y182 x39_1)).bind fun t197 => (if t196 = t197 then ((calendar_Month.f (rd y182 x39_1)).bind fun t198 => ((wageofficeref02_Month.f k1 (rd y182 x39_1)).bind fun t199 => (if t198 = t199 then ((calendar_Text.f k1 (rd y182 x39_1)).bind fun t200 => ((wageofficeref02_Text.f k1 (rd y182 x39_1)).bind fun t201 => (wageofficelaw02_CalendarMatchesReference.j1 k1 a2 a3 (t200.toList == t201.toList) (rd y182 x39_1) y182 (y182.length : Int) x39_1 a1_0 a1_1 a1_2))) else (wageofficelaw02_CalendarMatchesReference.j1 k1 a2 a3 false (rd y182 x39_1) y182 (y182.length : Int) x39_1 a1_0 a1_1 a1_2)))) else (wageofficelaw02_CalendarMatchesReference.j1 k1 a2 a3 false (rd y182 x39_1) y182 (y182.length : Int) x39_1 a1_0 a1_1 a1_2)))) else (wageofficelaw02_CalendarMatchesReference.j1 k1 a2 a3 false (rd y182 x39_1) y182 (y182.length : Int) x39_1 a1_0 a1_1 a1_2)) else (wageofficelaw02_CalendarMatchesReference.j1 k1 a2 a3 false (rd y182 x39_1) y182 (y182.length : Int) x39_1 a1_0 a1_1 a1_2)) else (wageofficelaw02_CalendarMatchesReference.j1 k1 a2 a3 false (rd y182 x39_1) y182 (y182.length : Int) x39_1 a1_0 a1_1 a1_2)) else (wageofficelaw02_CalendarMatchesReference.j1 k1 a2 a3 false (rd y182 x39_1) y182 (y182.length : Int) x39_1 a1_0 a1_1 a1_2)) else (wageofficelaw02_CalendarMatchesReference.j1 k1 a2 a3 false (rd y182 x39_1) y182 (y182.length : Int) x39_1 a1_0 a1_1 a1_2)) else (wageofficelaw02_CalendarMatchesReference.j1 k1 a2 a3 false (rd y182 x39_1) y182 (y182.length : Int) x39_1 a1_0 a1_1 a1_2)) = some r := H
            have A18 := Aside0.mk A180
            clear A180
            have HC19 := Aside0.mk H
            clear H
            have p185 : 0 ≤ (x39_1 : Int) := of_decide_eq_true (by first | (with_reducible assumption) | assumption)
            have q185 : x39_1 < (y182.length : Int) := of_decide_eq_true (by first | (with_reducible assumption) | assumption)
            obtain ⟨ad185, e185, hx185_0⟩ := Kd.at_int (Kd.R_reads' HO_37.out).2.2 x39_1 p185 q185
            cases e185
            replace p185 := eq_true p185
            replace q185 := eq_true q185
            go_upto_region 9 with (first | ((with_reducible refine gate_callee (f := 11) rfl ?_); refine goesL_ (some 45) rfl rfl Tryd.func11 (by kernel_rfl) rfl #[.int .i64 (rd y182 x39_1)] rfl (by (try simp only [List.map_toArray, List.map_cons, List.map_nil]); first | done | rfl | (simp only [List.length_drop, List.length_take]; rfl)) ?_; (with_reducible refine (calendar_Date.calls (rd y182 x39_1) t186 t187 t188 _ A15.out (TabBefore.below hTBefore.out (by repeat (first | exact HB.out | exact Below.refl _ _ | apply below_alloc | apply pw_below_drewN | apply below_drew1 | apply below_drew | refine below_set ?_ GE179.out | refine below_set ?_ GE213.out)))).mono ?_); rintro e w20 ⟨rfl, hb⟩; refine ⟨_, rfl, ?_⟩; have n0_ := Aside0.mk (Kd.R_below (by (with_reducible repeat (first | apply Kd.R_alloc | apply Kd.R_drewN | apply Kd.R_drew)); exact HO_37.out) hb); have n1_ := Aside0.mk (blk_below (g := gb179) (o := .cells #[.int .i64 a1_0, .int .i64 a1_1, .int .i64 a1_2] 22 (0, 0)) (by (with_reducible repeat (first | refine blk_drewN ?_ _ | refine blk_drew ?_ | refine blk_alloc ?_ _)); exact BK179.out) hb); have n2_ := Aside0.mk (below_step (by repeat (first | (with_reducible first | exact HB.out | apply below_alloc | apply pw_below_drewN | apply below_drew1 | refine below_set ?_ GE179.out) | exact HB.out)) hb); clear HO_37; clear BK179; clear HB; have HO_37 := n0_; have BK179 := n1_; have HB := n2_; clear n0_ n1_ n2_; (try clear hb); (try clear hb2); (try clear hk); (try clear hi)) | ((with_reducible refine gate_callee (f := 12) rfl ?_); refine goesL_ (some 51) rfl rfl Tryd.func12 (by kernel_rfl) rfl #[.int .i64 (rd y182 x39_1)] rfl (by (try simp only [List.map_toArray, List.map_cons, List.map_nil]); first | done | rfl | (simp only [List.length_drop, List.length_take]; rfl)) ?_; (with_reducible refine (wageofficeref02_Date.calls k1 (rd y182 x39_1) t189 t190 t191 _ A16.out).mono ?_); rintro e w' ⟨rfl, ⟨nd, rfl⟩⟩; refine ⟨_, rfl, ?_⟩) | ((with_reducible refine gate_callee (f := 13) rfl ?_); refine goesL_ (some 58) rfl rfl Tryd.func13 (by kernel_rfl) rfl #[.int .i64 (rd y182 x39_1), .int .i64 a2] rfl (by (try simp only [List.map_toArray, List.map_cons, List.map_nil]); first | done | rfl | (simp only [List.length_drop, List.length_take]; rfl)) ?_; (with_reducible refine (calendar_Later.calls k1 (rd y182 x39_1) a2 t192 t193 _ A17.out (TabBefore.below hTBefore.out (by repeat (first | exact HB.out | exact Below.refl _ _ | apply below_alloc | apply pw_below_drewN | apply below_drew1 | apply below_drew | refine below_set ?_ GE179.out | refine below_set ?_ GE213.out)))).mono ?_); rintro e w21 ⟨rfl, hb⟩; refine ⟨_, rfl, ?_⟩; have n0_ := Aside0.mk (Kd.R_below (by (with_reducible repeat (first | apply Kd.R_alloc | apply Kd.R_drewN | apply Kd.R_drew)); exact HO_37.out) hb); have n1_ := Aside0.mk (blk_below (g := gb179) (o := .cells #[.int .i64 a1_0, .int .i64 a1_1, .int .i64 a1_2] 22 (0, 0)) (by (with_reducible repeat (first | refine blk_drewN ?_ _ | refine blk_drew ?_ | refine blk_alloc ?_ _)); exact BK179.out) hb); have n2_ := Aside0.mk (below_step (by repeat (first | (with_reducible first | exact HB.out | apply below_alloc | apply pw_below_drewN | apply below_drew1 | refine below_set ?_ GE179.out) | exact HB.out)) hb); clear HO_37; clear BK179; clear HB; have HO_37 := n0_; have BK179 := n1_; have HB := n2_; clear n0_ n1_ n2_; (try clear hb); (try clear hb2); (try clear hk); (try clear hi)) | ((with_reducible refine gate_callee (f := 14) rfl ?_); refine goesL_ (some 64) rfl rfl Tryd.func14 (by kernel_rfl) rfl #[.int .i64 (rd y182 x39_1), .int .i64 a2] rfl (by (try simp only [List.map_toArray, List.map_cons, List.map_nil]); first | done | rfl | (simp only [List.length_drop, List.length_take]; rfl)) ?_; (with_reducible refine (wageofficeref02_Later.calls k1 (rd y182 x39_1) a2 t194 t195 _ A18.out).mono ?_); rintro e w22 ⟨rfl, hb⟩; refine ⟨_, rfl, ?_⟩; have n0_ := Aside0.mk (Kd.R_below (by (with_reducible repeat (first | apply Kd.R_alloc | apply Kd.R_drewN | apply Kd.R_drew)); exact HO_37.out) hb); have n1_ := Aside0.mk (blk_below (g := gb179) (o := .cells #[.int .i64 a1_0, .int .i64 a1_1, .int .i64 a1_2] 22 (0, 0)) (by (with_reducible repeat (first | refine blk_drewN ?_ _ | refine blk_drew ?_ | refine blk_alloc ?_ _)); exact BK179.out) hb); have n2_ := Aside0.mk (below_step (by repeat (first | (with_reducible first | exact HB.out | apply below_alloc | apply pw_below_drewN | apply below_drew1 | refine below_set ?_ GE179.out) | exact HB.out)) hb); clear HO_37; clear BK179; clear HB; have HO_37 := n0_; have BK179 := n1_; have HB := n2_; clear n0_ n1_ n2_; (try clear hb); (try clear hb2); (try clear hk); (try clear hi)))
            (try simp only [Act.put, List.setIfInBounds_toArray, List.set_cons_zero, List.set_cons_succ])
            go_cut [9] (fun v9 wc => ∃ (kq : Nat) (x9_18 : Bool), v9 = .bool x9_18 ∧ Aside0 (wageofficelaw02_CalendarMatchesReference.j1 kq a2 a3 x9_18 (rd y182 x39_1) y182 (y182.length : Int) x39_1 a1_0 a1_1 a1_2 = some r) ∧ Aside0 (kq ≤ k1) ∧ Aside0 (Kd.R (Kd.int .i64) 3 wc w.heap.size (fun _ => True) (.slice (some ad185) y182.length co11) y182) ∧ Aside0 (wc.heap[gb179]? = some (.cells #[.int .i64 a1_0, .int .i64 a1_1, .int .i64 a1_2] 22 (0, 0))) ∧ Aside0 (Below w.heap.size w wc))
            case first =>
              have H := HC19.out
              clear HC19
              by_cases c23 : x9_1 = true
              · subst c23
                have H1 : (if t186 = t189 then (if t187 = t190 then (if t188 = t191 then (if t192 = t194 then (if t193 = t195 then ((calendar_Weekday.f (rd y182 x39_1)).bind fun t196 => ((wageofficeref02_Weekday.f k1 (rd y182 x39_1)).bind fun t197 => (if t196 = t197 then ((calendar_Month.f (rd y182 x39_1)).bind fun t198 => ((wageofficeref02_Month.f k1 (rd y182 x39_1)).bind fun t199 => (if t198 = t199 then ((calendar_Text.f k1 (rd y182 x39_1)).bind fun t200 => ((wageofficeref02_Text.f k1 (rd y182 x39_1)).bind fun t201 => (wageofficelaw02_CalendarMatchesReference.j1 k1 a2 a3 (t200.toList == t201.toList) (rd y182 x39_1) y182 (y182.length : Int) x39_1 a1_0 a1_1 a1_2))) else (wageofficelaw02_CalendarMatchesReference.j1 k1 a2 a3 false (rd y182 x39_1) y182 (y182.length : Int) x39_1 a1_0 a1_1 a1_2)))) else (wageofficelaw02_CalendarMatchesReference.j1 k1 a2 a3 false (rd y182 x39_1) y182 (y182.length : Int) x39_1 a1_0 a1_1 a1_2)))) else (wageofficelaw02_CalendarMatchesReference.j1 k1 a2 a3 false (rd y182 x39_1) y182 (y182.length : Int) x39_1 a1_0 a1_1 a1_2)) else (wageofficelaw02_CalendarMatchesReference.j1 k1 a2 a3 false (rd y182 x39_1) y182 (y182.length : Int) x39_1 a1_0 a1_1 a1_2)) else (wageofficelaw02_CalendarMatchesReference.j1 k1 a2 a3 false (rd y182 x39_1) y182 (y182.length : Int) x39_1 a1_0 a1_1 a1_2)) else (wageofficelaw02_CalendarMatchesReference.j1 k1 a2 a3 false (rd y182 x39_1) y182 (y182.length : Int) x39_1 a1_0 a1_1 a1_2)) else (wageofficelaw02_CalendarMatchesReference.j1 k1 a2 a3 false (rd y182 x39_1) y182 (y182.length : Int) x39_1 a1_0 a1_1 a1_2)) = some r := by rw [if_pos rfl] at H; exact H
                clear H
                have H := H1
                clear H1
                by_cases c24 : t186 = t189
                · rw [if_pos c24] at H
                  have c24b0 : (t186 == t189) = true := beq_iff_eq.mpr c24
                  have c24b1 : (t186 != t189) = false := bne_eq_false_iff_eq.mpr c24
                  clear c24
                  (first | rw [c24b0] | (simp only [i64_w, i32_w]; rw [c24b0]) | skip)
                  by_cases c25 : t187 = t190
                  · rw [if_pos c25] at H
                    have c25b0 : (t187 == t190) = true := beq_iff_eq.mpr c25
                    have c25b1 : (t187 != t190) = false := bne_eq_false_iff_eq.mpr c25
                    clear c25
                    by_cases c26 : t188 = t191
                    · rw [if_pos c26] at H
                      have c26b0 : (t188 == t191) = true := beq_iff_eq.mpr c26
                      have c26b1 : (t188 != t191) = false := bne_eq_false_iff_eq.mpr c26
                      clear c26
                      by_cases c27 : t192 = t194
                      · rw [if_pos c27] at H
                        have c27b0 : (t192 == t194) = true := beq_iff_eq.mpr c27
                        have c27b1 : (t192 != t194) = false := bne_eq_false_iff_eq.mpr c27
                        clear c27
                        by_cases c28 : t193 = t195
                        · rw [if_pos c28] at H
                          have c28b0 : (t193 == t195) = true := beq_iff_eq.mpr c28
                          have c28b1 : (t193 != t195) = false := bne_eq_false_iff_eq.mpr c28
                          clear c28
                          replace H := Option.bind_eq_some_iff.mp H
                          obtain ⟨t196, A290, H⟩ := H
                          replace H : ((wageofficeref02_Weekday.f k1 (rd y182 x39_1)).bind fun t197 => (if t196 = t197 then ((calendar_Month.f (rd y182 x39_1)).bind fun t198 => ((wageofficeref02_Month.f k1 (rd y182 x39_1)).bind fun t199 => (if t198 = t199 then ((calendar_Text.f k1 (rd y182 x39_1)).bind fun t200 => ((wageofficeref02_Text.f k1 (rd y182 x39_1)).bind fun t201 => (wageofficelaw02_CalendarMatchesReference.j1 k1 a2 a3 (t200.toList == t201.toList) (rd y182 x39_1) y182 (y182.length : Int) x39_1 a1_0 a1_1 a1_2))) else (wageofficelaw02_CalendarMatchesReference.j1 k1 a2 a3 false (rd y182 x39_1) y182 (y182.length : Int) x39_1 a1_0 a1_1 a1_2)))) else (wageofficelaw02_CalendarMatchesReference.j1 k1 a2 a3 false (rd y182 x39_1) y182 (y182.length : Int) x39_1 a1_0 a1_1 a1_2))) = some r := H
                          have A29 := Aside0.mk A290
                          clear A290
                          replace H := Option.bind_eq_some_iff.mp H
                          obtain ⟨t197, A300, H⟩ := H
                          replace H : (if t196 = t197 then ((calendar_Month.f (rd y182 x39_1)).bind fun t198 => ((wageofficeref02_Month.f k1 (rd y182 x39_1)).bind fun t199 => (if t198 = t199 then ((calendar_Text.f k1 (rd y182 x39_1)).bind fun t200 => ((wageofficeref02_Text.f k1 (rd y182 x39_1)).bind fun t201 => (wageofficelaw02_CalendarMatchesReference.j1 k1 a2 a3 (t200.toList == t201.toList) (rd y182 x39_1) y182 (y182.length : Int) x39_1 a1_0 a1_1 a1_2))) else (wageofficelaw02_CalendarMatchesReference.j1 k1 a2 a3 false (rd y182 x39_1) y182 (y182.length : Int) x39_1 a1_0 a1_1 a1_2)))) else (wageofficelaw02_CalendarMatchesReference.j1 k1 a2 a3 false (rd y182 x39_1) y182 (y182.length : Int) x39_1 a1_0 a1_1 a1_2)) = some r := H
                          have A30 := Aside0.mk A300
                          clear A300
                          by_cases c31 : t196 = t197
                          · rw [if_pos c31] at H
                            have c31b0 : (t196 == t197) = true := beq_iff_eq.mpr c31
                            have c31b1 : (t196 != t197) = false := bne_eq_false_iff_eq.mpr c31
                            clear c31
                            replace H := Option.bind_eq_some_iff.mp H
                            obtain ⟨t198, A320, H⟩ := H
                            replace H : ((wageofficeref02_Month.f k1 (rd y182 x39_1)).bind fun t199 => (if t198 = t199 then ((calendar_Text.f k1 (rd y182 x39_1)).bind fun t200 => ((wageofficeref02_Text.f k1 (rd y182 x39_1)).bind fun t201 => (wageofficelaw02_CalendarMatchesReference.j1 k1 a2 a3 (t200.toList == t201.toList) (rd y182 x39_1) y182 (y182.length : Int) x39_1 a1_0 a1_1 a1_2))) else (wageofficelaw02_CalendarMatchesReference.j1 k1 a2 a3 false (rd y182 x39_1) y182 (y182.length : Int) x39_1 a1_0 a1_1 a1_2))) = some r := H
                            have A32 := Aside0.mk A320
                            clear A320
                            replace H := Option.bind_eq_some_iff.mp H
                            obtain ⟨t199, A330, H⟩ := H
                            replace H : (if t198 = t199 then ((calendar_Text.f k1 (rd y182 x39_1)).bind fun t200 => ((wageofficeref02_Text.f k1 (rd y182 x39_1)).bind fun t201 => (wageofficelaw02_CalendarMatchesReference.j1 k1 a2 a3 (t200.toList == t201.toList) (rd y182 x39_1) y182 (y182.length : Int) x39_1 a1_0 a1_1 a1_2))) else (wageofficelaw02_CalendarMatchesReference.j1 k1 a2 a3 false (rd y182 x39_1) y182 (y182.length : Int) x39_1 a1_0 a1_1 a1_2)) = some r := H
                            have A33 := Aside0.mk A330
                            clear A330
                            by_cases c34 : t198 = t199
                            · rw [if_pos c34] at H
                              have c34b0 : (t198 == t199) = true := beq_iff_eq.mpr c34
                              have c34b1 : (t198 != t199) = false := bne_eq_false_iff_eq.mpr c34
                              clear c34
                              replace H := Option.bind_eq_some_iff.mp H
                              obtain ⟨t200, A350, H⟩ := H
                              replace H : ((wageofficeref02_Text.f k1 (rd y182 x39_1)).bind fun t201 => (wageofficelaw02_CalendarMatchesReference.j1 k1 a2 a3 (t200.toList == t201.toList) (rd y182 x39_1) y182 (y182.length : Int) x39_1 a1_0 a1_1 a1_2)) = some r := H
                              have A35 := Aside0.mk A350
                              clear A350
                              replace H := Option.bind_eq_some_iff.mp H
                              obtain ⟨t201, A360, H⟩ := H
                              replace H : (wageofficelaw02_CalendarMatchesReference.j1 k1 a2 a3 (t200.toList == t201.toList) (rd y182 x39_1) y182 (y182.length : Int) x39_1 a1_0 a1_1 a1_2) = some r := H
                              have A36 := Aside0.mk A360
                              clear A360
                              have H' := Aside0.mk H
                              clear H
                              go_wp2_with (first | (go_at_call 15; (with_reducible refine (calendar_Weekday.calls (rd y182 x39_1) t196 _ A29.out).mono ?_); rintro e w' ⟨rfl, ⟨nd, rfl⟩⟩) | (go_at_call 16; (with_reducible refine (wageofficeref02_Weekday.calls k1 (rd y182 x39_1) t197 _ A30.out).mono ?_); rintro e w' ⟨rfl, ⟨nd, rfl⟩⟩) | (go_at_call 17; (with_reducible refine (calendar_Month.calls (rd y182 x39_1) t198 _ A32.out (TabBefore.below hTBefore.out (by repeat (first | exact HB.out | exact Below.refl _ _ | apply below_alloc | apply pw_below_drewN | apply below_drew1 | apply below_drew | refine below_set ?_ GE179.out | refine below_set ?_ GE213.out)))).mono ?_); rintro e w37 ⟨rfl, hb⟩; have n0_ := Aside0.mk (Kd.R_below (by (with_reducible repeat (first | apply Kd.R_alloc | apply Kd.R_drewN | apply Kd.R_drew)); exact HO_37.out) hb); have n1_ := Aside0.mk (blk_below (g := gb179) (o := .cells #[.int .i64 a1_0, .int .i64 a1_1, .int .i64 a1_2] 22 (0, 0)) (by (with_reducible repeat (first | refine blk_drewN ?_ _ | refine blk_drew ?_ | refine blk_alloc ?_ _)); exact BK179.out) hb); have n2_ := Aside0.mk (below_step (by repeat (first | (with_reducible first | exact HB.out | apply below_alloc | apply pw_below_drewN | apply below_drew1 | refine below_set ?_ GE179.out) | exact HB.out)) hb); clear HO_37; clear BK179; clear HB; have HO_37 := n0_; have BK179 := n1_; have HB := n2_; clear n0_ n1_ n2_; (try clear hb); (try clear hb2); (try clear hk); (try clear hi)) | (go_at_call 18; (with_reducible refine (wageofficeref02_Month.calls k1 (rd y182 x39_1) t199 _ A33.out).mono ?_); rintro e w' ⟨rfl, ⟨nd, rfl⟩⟩) | (go_at_call 19; (with_reducible refine (calendar_Text.calls k1 (rd y182 x39_1) t200 _ A35.out (TabBefore.below hTBefore.out (by repeat (first | exact HB.out | exact Below.refl _ _ | apply below_alloc | apply pw_below_drewN | apply below_drew1 | apply below_drew | refine below_set ?_ GE179.out | refine below_set ?_ GE213.out)))).mono ?_); rintro e w38 ⟨rfl, hb⟩; have n0_ := Aside0.mk (Kd.R_below (by (with_reducible repeat (first | apply Kd.R_alloc | apply Kd.R_drewN | apply Kd.R_drew)); exact HO_37.out) hb); have n1_ := Aside0.mk (blk_below (g := gb179) (o := .cells #[.int .i64 a1_0, .int .i64 a1_1, .int .i64 a1_2] 22 (0, 0)) (by (with_reducible repeat (first | refine blk_drewN ?_ _ | refine blk_drew ?_ | refine blk_alloc ?_ _)); exact BK179.out) hb); have n2_ := Aside0.mk (below_step (by repeat (first | (with_reducible first | exact HB.out | apply below_alloc | apply pw_below_drewN | apply below_drew1 | refine below_set ?_ GE179.out) | exact HB.out)) hb); clear HO_37; clear BK179; clear HB; have HO_37 := n0_; have BK179 := n1_; have HB := n2_; clear n0_ n1_ n2_; (try clear hb); (try clear hb2); (try clear hk); (try clear hi)) | (go_at_call 20; (with_reducible refine (wageofficeref02_Text.calls k1 (rd y182 x39_1) t201 _ A36.out).mono ?_); rintro e w39 ⟨rfl, hb⟩; have n0_ := Aside0.mk (Kd.R_below (by (with_reducible repeat (first | apply Kd.R_alloc | apply Kd.R_drewN | apply Kd.R_drew)); exact HO_37.out) hb); have n1_ := Aside0.mk (blk_below (g := gb179) (o := .cells #[.int .i64 a1_0, .int .i64 a1_1, .int .i64 a1_2] 22 (0, 0)) (by (with_reducible repeat (first | refine blk_drewN ?_ _ | refine blk_drew ?_ | refine blk_alloc ?_ _)); exact BK179.out) hb); have n2_ := Aside0.mk (below_step (by repeat (first | (with_reducible first | exact HB.out | apply below_alloc | apply pw_below_drewN | apply below_drew1 | refine below_set ?_ GE179.out) | exact HB.out)) hb); clear HO_37; clear BK179; clear HB; have HO_37 := n0_; have BK179 := n1_; have HB := n2_; clear n0_ n1_ n2_; (try clear hb); (try clear hb2); (try clear hk); (try clear hi)))
                              go_meet
                              case rel => exact ⟨_, ((t200.toList == t201.toList)), (by first | rfl | (simp; done) | (simp [*]; done)), H', ⟨by have := HK1.out; first | omega | exact Nat.le_refl _⟩, ⟨by (with_reducible repeat (first | apply Kd.R_alloc | apply Kd.R_drewN | apply Kd.R_drew)); exact HO_37.out⟩, ⟨by (with_reducible repeat (first | refine blk_drewN ?_ _ | refine blk_drew ?_ | refine blk_alloc ?_ _)); exact BK179.out⟩, ⟨by repeat (first | (with_reducible first | exact HB.out | apply below_alloc | apply pw_below_drewN | apply below_drew1 | refine below_set ?_ GE179.out) | exact HB.out)⟩⟩
                            · rw [if_neg c34] at H
                              have c34b0 : (t198 == t199) = false := beq_eq_false_iff_ne.mpr c34
                              have c34b1 : (t198 != t199) = true := bne_iff_ne.mpr c34
                              have H' := Aside0.mk H
                              clear H
                              go_wp2_with (first | (go_at_call 15; (with_reducible refine (calendar_Weekday.calls (rd y182 x39_1) t196 _ A29.out).mono ?_); rintro e w' ⟨rfl, ⟨nd, rfl⟩⟩) | (go_at_call 16; (with_reducible refine (wageofficeref02_Weekday.calls k1 (rd y182 x39_1) t197 _ A30.out).mono ?_); rintro e w' ⟨rfl, ⟨nd, rfl⟩⟩) | (go_at_call 17; (with_reducible refine (calendar_Month.calls (rd y182 x39_1) t198 _ A32.out (TabBefore.below hTBefore.out (by repeat (first | exact HB.out | exact Below.refl _ _ | apply below_alloc | apply pw_below_drewN | apply below_drew1 | apply below_drew | refine below_set ?_ GE179.out | refine below_set ?_ GE213.out)))).mono ?_); rintro e w40 ⟨rfl, hb⟩; have n0_ := Aside0.mk (Kd.R_below (by (with_reducible repeat (first | apply Kd.R_alloc | apply Kd.R_drewN | apply Kd.R_drew)); exact HO_37.out) hb); have n1_ := Aside0.mk (blk_below (g := gb179) (o := .cells #[.int .i64 a1_0, .int .i64 a1_1, .int .i64 a1_2] 22 (0, 0)) (by (with_reducible repeat (first | refine blk_drewN ?_ _ | refine blk_drew ?_ | refine blk_alloc ?_ _)); exact BK179.out) hb); have n2_ := Aside0.mk (below_step (by repeat (first | (with_reducible first | exact HB.out | apply below_alloc | apply pw_below_drewN | apply below_drew1 | refine below_set ?_ GE179.out) | exact HB.out)) hb); clear HO_37; clear BK179; clear HB; have HO_37 := n0_; have BK179 := n1_; have HB := n2_; clear n0_ n1_ n2_; (try clear hb); (try clear hb2); (try clear hk); (try clear hi)) | (go_at_call 18; (with_reducible refine (wageofficeref02_Month.calls k1 (rd y182 x39_1) t199 _ A33.out).mono ?_); rintro e w' ⟨rfl, ⟨nd, rfl⟩⟩))
                              go_meet
                              case rel => exact ⟨_, (false), (by first | rfl | (simp; done) | (simp [*]; done)), H', ⟨by have := HK1.out; first | omega | exact Nat.le_refl _⟩, ⟨by (with_reducible repeat (first | apply Kd.R_alloc | apply Kd.R_drewN | apply Kd.R_drew)); exact HO_37.out⟩, ⟨by (with_reducible repeat (first | refine blk_drewN ?_ _ | refine blk_drew ?_ | refine blk_alloc ?_ _)); exact BK179.out⟩, ⟨by repeat (first | (with_reducible first | exact HB.out | apply below_alloc | apply pw_below_drewN | apply below_drew1 | refine below_set ?_ GE179.out) | exact HB.out)⟩⟩
                          · rw [if_neg c31] at H
                            have c31b0 : (t196 == t197) = false := beq_eq_false_iff_ne.mpr c31
                            have c31b1 : (t196 != t197) = true := bne_iff_ne.mpr c31
                            have H' := Aside0.mk H
                            clear H
                            go_wp2_with (first | (go_at_call 15; (with_reducible refine (calendar_Weekday.calls (rd y182 x39_1) t196 _ A29.out).mono ?_); rintro e w' ⟨rfl, ⟨nd, rfl⟩⟩) | (go_at_call 16; (with_reducible refine (wageofficeref02_Weekday.calls k1 (rd y182 x39_1) t197 _ A30.out).mono ?_); rintro e w' ⟨rfl, ⟨nd, rfl⟩⟩))
                            go_meet
                            case rel => exact ⟨_, (false), (by first | rfl | (simp; done) | (simp [*]; done)), H', ⟨by have := HK1.out; first | omega | exact Nat.le_refl _⟩, ⟨by (with_reducible repeat (first | apply Kd.R_alloc | apply Kd.R_drewN | apply Kd.R_drew)); exact HO_37.out⟩, ⟨by (with_reducible repeat (first | refine blk_drewN ?_ _ | refine blk_drew ?_ | refine blk_alloc ?_ _)); exact BK179.out⟩, ⟨by repeat (first | (with_reducible first | exact HB.out | apply below_alloc | apply pw_below_drewN | apply below_drew1 | refine below_set ?_ GE179.out) | exact HB.out)⟩⟩
                        · rw [if_neg c28] at H
                          have c28b0 : (t193 == t195) = false := beq_eq_false_iff_ne.mpr c28
                          have c28b1 : (t193 != t195) = true := bne_iff_ne.mpr c28
                          have H' := Aside0.mk H
                          clear H
                          go_wp2
                          go_meet
                          case rel => exact ⟨_, (false), (by first | rfl | (simp; done) | (simp [*]; done)), H', ⟨by have := HK1.out; first | omega | exact Nat.le_refl _⟩, ⟨by (with_reducible repeat (first | apply Kd.R_alloc | apply Kd.R_drewN | apply Kd.R_drew)); exact HO_37.out⟩, ⟨by (with_reducible repeat (first | refine blk_drewN ?_ _ | refine blk_drew ?_ | refine blk_alloc ?_ _)); exact BK179.out⟩, ⟨by repeat (first | (with_reducible first | exact HB.out | apply below_alloc | apply pw_below_drewN | apply below_drew1 | refine below_set ?_ GE179.out) | exact HB.out)⟩⟩
                      · rw [if_neg c27] at H
                        have c27b0 : (t192 == t194) = false := beq_eq_false_iff_ne.mpr c27
                        have c27b1 : (t192 != t194) = true := bne_iff_ne.mpr c27
                        have H' := Aside0.mk H
                        clear H
                        go_wp2
                        go_meet
                        case rel => exact ⟨_, (false), (by first | rfl | (simp; done) | (simp [*]; done)), H', ⟨by have := HK1.out; first | omega | exact Nat.le_refl _⟩, ⟨by (with_reducible repeat (first | apply Kd.R_alloc | apply Kd.R_drewN | apply Kd.R_drew)); exact HO_37.out⟩, ⟨by (with_reducible repeat (first | refine blk_drewN ?_ _ | refine blk_drew ?_ | refine blk_alloc ?_ _)); exact BK179.out⟩, ⟨by repeat (first | (with_reducible first | exact HB.out | apply below_alloc | apply pw_below_drewN | apply below_drew1 | refine below_set ?_ GE179.out) | exact HB.out)⟩⟩
                    · rw [if_neg c26] at H
                      have c26b0 : (t188 == t191) = false := beq_eq_false_iff_ne.mpr c26
                      have c26b1 : (t188 != t191) = true := bne_iff_ne.mpr c26
                      have H' := Aside0.mk H
                      clear H
                      go_wp2
                      go_meet
                      case rel => exact ⟨_, (false), (by first | rfl | (simp; done) | (simp [*]; done)), H', ⟨by have := HK1.out; first | omega | exact Nat.le_refl _⟩, ⟨by (with_reducible repeat (first | apply Kd.R_alloc | apply Kd.R_drewN | apply Kd.R_drew)); exact HO_37.out⟩, ⟨by (with_reducible repeat (first | refine blk_drewN ?_ _ | refine blk_drew ?_ | refine blk_alloc ?_ _)); exact BK179.out⟩, ⟨by repeat (first | (with_reducible first | exact HB.out | apply below_alloc | apply pw_below_drewN | apply below_drew1 | refine below_set ?_ GE179.out) | exact HB.out)⟩⟩
                  · rw [if_neg c25] at H
                    have c25b0 : (t187 == t190) = false := beq_eq_false_iff_ne.mpr c25
                    have c25b1 : (t187 != t190) = true := bne_iff_ne.mpr c25
                    have H' := Aside0.mk H
                    clear H
                    go_wp2
                    go_meet
                    case rel => exact ⟨_, (false), (by first | rfl | (simp; done) | (simp [*]; done)), H', ⟨by have := HK1.out; first | omega | exact Nat.le_refl _⟩, ⟨by (with_reducible repeat (first | apply Kd.R_alloc | apply Kd.R_drewN | apply Kd.R_drew)); exact HO_37.out⟩, ⟨by (with_reducible repeat (first | refine blk_drewN ?_ _ | refine blk_drew ?_ | refine blk_alloc ?_ _)); exact BK179.out⟩, ⟨by repeat (first | (with_reducible first | exact HB.out | apply below_alloc | apply pw_below_drewN | apply below_drew1 | refine below_set ?_ GE179.out) | exact HB.out)⟩⟩
                · rw [if_neg c24] at H
                  have c24b0 : (t186 == t189) = false := beq_eq_false_iff_ne.mpr c24
                  have c24b1 : (t186 != t189) = true := bne_iff_ne.mpr c24
                  (first | rw [c24b0] | (simp only [i64_w, i32_w]; rw [c24b0]) | skip)
                  have H' := Aside0.mk H
                  clear H
                  go_wp2
                  go_meet
                  case rel => exact ⟨_, (false), (by first | rfl | (simp; done) | (simp [*]; done)), H', ⟨by have := HK1.out; first | omega | exact Nat.le_refl _⟩, ⟨by (with_reducible repeat (first | apply Kd.R_alloc | apply Kd.R_drewN | apply Kd.R_drew)); exact HO_37.out⟩, ⟨by (with_reducible repeat (first | refine blk_drewN ?_ _ | refine blk_drew ?_ | refine blk_alloc ?_ _)); exact BK179.out⟩, ⟨by repeat (first | (with_reducible first | exact HB.out | apply below_alloc | apply pw_below_drewN | apply below_drew1 | refine below_set ?_ GE179.out) | exact HB.out)⟩⟩
              · replace c23 := Bool.eq_false_iff.mpr c23
                subst c23
                have H1 : (wageofficelaw02_CalendarMatchesReference.j1 k1 a2 a3 false (rd y182 x39_1) y182 (y182.length : Int) x39_1 a1_0 a1_1 a1_2) = some r := by rw [if_neg (show ¬ (false = true) by decide)] at H; exact H
                clear H
                have H := H1
                clear H1
                have H' := Aside0.mk H
                clear H
                go_wp2
                go_meet
                case rel => exact ⟨_, (false), (by first | rfl | (simp; done) | (simp [*]; done)), H', ⟨by have := HK1.out; first | omega | exact Nat.le_refl _⟩, ⟨by (with_reducible repeat (first | apply Kd.R_alloc | apply Kd.R_drewN | apply Kd.R_drew)); exact HO_37.out⟩, ⟨by (with_reducible repeat (first | refine blk_drewN ?_ _ | refine blk_drew ?_ | refine blk_alloc ?_ _)); exact BK179.out⟩, ⟨by repeat (first | (with_reducible first | exact HB.out | apply below_alloc | apply pw_below_drewN | apply below_drew1 | refine below_set ?_ GE179.out) | exact HB.out)⟩⟩
            case rest =>
              clear HC19
              try clear c1
              try clear p1
              try clear q1
              try clear hx1
              try clear c2
              try clear p2
              try clear c3
              try clear c9
              try clear c10
              try clear c11
              try clear c12
              try clear c12b0
              try clear c13
              try clear c13b0
              try clear c14
              try clear c14b0
              try clear p18
              try clear q18
              try clear hx18
              try clear c23
              try clear c24
              try clear c24b0
              try clear c24b1
              try clear c25
              try clear c25b0
              try clear c25b1
              try clear c26
              try clear c26b0
              try clear c26b1
              try clear c27
              try clear c27b0
              try clear c27b1
              try clear c28
              try clear c28b0
              try clear c28b1
              try clear c31
              try clear c31b0
              try clear c31b1
              try clear c34
              try clear c34b0
              try clear c34b1
              try clear hx185_0
              try clear p185
              try clear p2
              try clear q185
              obtain ⟨kq, x9_18, rfl, HA, HJ18, HO_37, BK179, HB⟩ := hcut
              cases kq with
              | zero => exact absurd HA.out (by simp [wageofficelaw02_CalendarMatchesReference.j1])
              | succ kj18 =>
                have H := HA.out
                clear HA
                simp only [wageofficelaw02_CalendarMatchesReference.j1] at H
                by_cases c41 : x9_18 = true
                · subst c41
                  have H1 : ((calendar_First.f (rd y182 x39_1)).bind fun t202 => ((wageofficeref02_First.f kj18 (rd y182 x39_1)).bind fun t203 => (if t202 = t203 then ((calendar_Length.f (rd y182 x39_1)).bind fun t204 => ((wageofficeref02_Length.f kj18 (rd y182 x39_1)).bind fun t205 => (wageofficelaw02_CalendarMatchesReference.l0 kj18 a2 a3 (t204 == t205) y182 (y182.length : Int) (wrap64 (x39_1 + 1)) a1_0 a1_1 a1_2))) else (wageofficelaw02_CalendarMatchesReference.l0 kj18 a2 a3 false y182 (y182.length : Int) (wrap64 (x39_1 + 1)) a1_0 a1_1 a1_2)))) = some r := by rw [if_pos rfl] at H; exact H
                  clear H
                  have H := H1
                  clear H1
                  replace H := Option.bind_eq_some_iff.mp H
                  obtain ⟨t202, A420, H⟩ := H
                  replace H : ((wageofficeref02_First.f kj18 (rd y182 x39_1)).bind fun t203 => (if t202 = t203 then ((calendar_Length.f (rd y182 x39_1)).bind fun t204 => ((wageofficeref02_Length.f kj18 (rd y182 x39_1)).bind fun t205 => (wageofficelaw02_CalendarMatchesReference.l0 kj18 a2 a3 (t204 == t205) y182 (y182.length : Int) (wrap64 (x39_1 + 1)) a1_0 a1_1 a1_2))) else (wageofficelaw02_CalendarMatchesReference.l0 kj18 a2 a3 false y182 (y182.length : Int) (wrap64 (x39_1 + 1)) a1_0 a1_1 a1_2))) = some r := H
                  have A42 := Aside0.mk A420
                  clear A420
                  replace H := Option.bind_eq_some_iff.mp H
                  obtain ⟨t203, A430, H⟩ := H
                  replace H : (if t202 = t203 then ((calendar_Length.f (rd y182 x39_1)).bind fun t204 => ((wageofficeref02_Length.f kj18 (rd y182 x39_1)).bind fun t205 => (wageofficelaw02_CalendarMatchesReference.l0 kj18 a2 a3 (t204 == t205) y182 (y182.length : Int) (wrap64 (x39_1 + 1)) a1_0 a1_1 a1_2))) else (wageofficelaw02_CalendarMatchesReference.l0 kj18 a2 a3 false y182 (y182.length : Int) (wrap64 (x39_1 + 1)) a1_0 a1_1 a1_2)) = some r := H
                  have A43 := Aside0.mk A430
                  clear A430
                  by_cases c44 : t202 = t203
                  · rw [if_pos c44] at H
                    have c44b0 : (t202 == t203) = true := beq_iff_eq.mpr c44
                    have c44b1 : (t202 != t203) = false := bne_eq_false_iff_eq.mpr c44
                    clear c44
                    replace H := Option.bind_eq_some_iff.mp H
                    obtain ⟨t204, A450, H⟩ := H
                    replace H : ((wageofficeref02_Length.f kj18 (rd y182 x39_1)).bind fun t205 => (wageofficelaw02_CalendarMatchesReference.l0 kj18 a2 a3 (t204 == t205) y182 (y182.length : Int) (wrap64 (x39_1 + 1)) a1_0 a1_1 a1_2)) = some r := H
                    have A45 := Aside0.mk A450
                    clear A450
                    replace H := Option.bind_eq_some_iff.mp H
                    obtain ⟨t205, A460, H⟩ := H
                    replace H : (wageofficelaw02_CalendarMatchesReference.l0 kj18 a2 a3 (t204 == t205) y182 (y182.length : Int) (wrap64 (x39_1 + 1)) a1_0 a1_1 a1_2) = some r := H
                    have A46 := Aside0.mk A460
                    clear A460
                    have H' := Aside0.mk H
                    clear H
                    go_wp2_with (first | (go_at_call 21; (with_reducible refine (calendar_First.calls (rd y182 x39_1) t202 _ A42.out (TabBefore.below hTBefore.out (by repeat (first | exact HB.out | exact Below.refl _ _ | apply below_alloc | apply pw_below_drewN | apply below_drew1 | apply below_drew | refine below_set ?_ GE179.out | refine below_set ?_ GE213.out)))).mono ?_); rintro e w47 ⟨rfl, hb⟩; have n0_ := Aside0.mk (Kd.R_below (by (with_reducible repeat (first | apply Kd.R_alloc | apply Kd.R_drewN | apply Kd.R_drew)); exact HO_37.out) hb); have n1_ := Aside0.mk (blk_below (g := gb179) (o := .cells #[.int .i64 a1_0, .int .i64 a1_1, .int .i64 a1_2] 22 (0, 0)) (by (with_reducible repeat (first | refine blk_drewN ?_ _ | refine blk_drew ?_ | refine blk_alloc ?_ _)); exact BK179.out) hb); have n2_ := Aside0.mk (below_step (by repeat (first | (with_reducible first | exact HB.out | apply below_alloc | apply pw_below_drewN | apply below_drew1 | refine below_set ?_ GE179.out) | exact HB.out)) hb); clear HO_37; clear BK179; clear HB; have HO_37 := n0_; have BK179 := n1_; have HB := n2_; clear n0_ n1_ n2_; (try clear hb); (try clear hb2); (try clear hk); (try clear hi)) | (go_at_call 22; (with_reducible refine (wageofficeref02_First.calls kj18 (rd y182 x39_1) t203 _ A43.out).mono ?_); rintro e w' ⟨rfl, ⟨nd, rfl⟩⟩) | (go_at_call 23; (with_reducible refine (calendar_Length.calls (rd y182 x39_1) t204 _ A45.out (TabBefore.below hTBefore.out (by repeat (first | exact HB.out | exact Below.refl _ _ | apply below_alloc | apply pw_below_drewN | apply below_drew1 | apply below_drew | refine below_set ?_ GE179.out | refine below_set ?_ GE213.out)))).mono ?_); rintro e w48 ⟨rfl, hb⟩; have n0_ := Aside0.mk (Kd.R_below (by (with_reducible repeat (first | apply Kd.R_alloc | apply Kd.R_drewN | apply Kd.R_drew)); exact HO_37.out) hb); have n1_ := Aside0.mk (blk_below (g := gb179) (o := .cells #[.int .i64 a1_0, .int .i64 a1_1, .int .i64 a1_2] 22 (0, 0)) (by (with_reducible repeat (first | refine blk_drewN ?_ _ | refine blk_drew ?_ | refine blk_alloc ?_ _)); exact BK179.out) hb); have n2_ := Aside0.mk (below_step (by repeat (first | (with_reducible first | exact HB.out | apply below_alloc | apply pw_below_drewN | apply below_drew1 | refine below_set ?_ GE179.out) | exact HB.out)) hb); clear HO_37; clear BK179; clear HB; have HO_37 := n0_; have BK179 := n1_; have HB := n2_; clear n0_ n1_ n2_; (try clear hb); (try clear hb2); (try clear hk); (try clear hi)) | (go_at_call 24; (with_reducible refine (wageofficeref02_Length.calls kj18 (rd y182 x39_1) t205 _ A46.out).mono ?_); rintro e w' ⟨rfl, ⟨nd, rfl⟩⟩))
                    go_roundg kj18
                    case measure => have := HK1.out; have := HJ18.out; omega
                    case rel => exact ⟨((t204 == t205)), (wrap64 (x39_1 + 1)), (by first | rfl | (simp; done) | (simp [*]; done)), (by first | rfl | (simp; done) | (simp [*]; done)), H', ⟨by have := HK1.out; have := HJ18.out; omega⟩, ⟨by (with_reducible repeat (first | apply Kd.R_alloc | apply Kd.R_drewN | apply Kd.R_drew)); exact HO_37.out⟩, ⟨by (with_reducible repeat (first | refine blk_drewN ?_ _ | refine blk_drew ?_ | refine blk_alloc ?_ _)); exact BK179.out⟩, ⟨by repeat (first | (with_reducible first | exact HB.out | apply below_alloc | apply pw_below_drewN | apply below_drew1 | refine below_set ?_ GE179.out) | exact HB.out)⟩⟩
                  · rw [if_neg c44] at H
                    have c44b0 : (t202 == t203) = false := beq_eq_false_iff_ne.mpr c44
                    have c44b1 : (t202 != t203) = true := bne_iff_ne.mpr c44
                    have H' := Aside0.mk H
                    clear H
                    go_wp2_with (first | (go_at_call 21; (with_reducible refine (calendar_First.calls (rd y182 x39_1) t202 _ A42.out (TabBefore.below hTBefore.out (by repeat (first | exact HB.out | exact Below.refl _ _ | apply below_alloc | apply pw_below_drewN | apply below_drew1 | apply below_drew | refine below_set ?_ GE179.out | refine below_set ?_ GE213.out)))).mono ?_); rintro e w49 ⟨rfl, hb⟩; have n0_ := Aside0.mk (Kd.R_below (by (with_reducible repeat (first | apply Kd.R_alloc | apply Kd.R_drewN | apply Kd.R_drew)); exact HO_37.out) hb); have n1_ := Aside0.mk (blk_below (g := gb179) (o := .cells #[.int .i64 a1_0, .int .i64 a1_1, .int .i64 a1_2] 22 (0, 0)) (by (with_reducible repeat (first | refine blk_drewN ?_ _ | refine blk_drew ?_ | refine blk_alloc ?_ _)); exact BK179.out) hb); have n2_ := Aside0.mk (below_step (by repeat (first | (with_reducible first | exact HB.out | apply below_alloc | apply pw_below_drewN | apply below_drew1 | refine below_set ?_ GE179.out) | exact HB.out)) hb); clear HO_37; clear BK179; clear HB; have HO_37 := n0_; have BK179 := n1_; have HB := n2_; clear n0_ n1_ n2_; (try clear hb); (try clear hb2); (try clear hk); (try clear hi)) | (go_at_call 22; (with_reducible refine (wageofficeref02_First.calls kj18 (rd y182 x39_1) t203 _ A43.out).mono ?_); rintro e w' ⟨rfl, ⟨nd, rfl⟩⟩))
                    go_roundg kj18
                    case measure => have := HK1.out; have := HJ18.out; omega
                    case rel => exact ⟨(false), (wrap64 (x39_1 + 1)), (by first | rfl | (simp; done) | (simp [*]; done)), (by first | rfl | (simp; done) | (simp [*]; done)), H', ⟨by have := HK1.out; have := HJ18.out; omega⟩, ⟨by (with_reducible repeat (first | apply Kd.R_alloc | apply Kd.R_drewN | apply Kd.R_drew)); exact HO_37.out⟩, ⟨by (with_reducible repeat (first | refine blk_drewN ?_ _ | refine blk_drew ?_ | refine blk_alloc ?_ _)); exact BK179.out⟩, ⟨by repeat (first | (with_reducible first | exact HB.out | apply below_alloc | apply pw_below_drewN | apply below_drew1 | refine below_set ?_ GE179.out) | exact HB.out)⟩⟩
                · replace c41 := Bool.eq_false_iff.mpr c41
                  subst c41
                  have H1 : (wageofficelaw02_CalendarMatchesReference.l0 kj18 a2 a3 false y182 (y182.length : Int) (wrap64 (x39_1 + 1)) a1_0 a1_1 a1_2) = some r := by rw [if_neg (show ¬ (false = true) by decide)] at H; exact H
                  clear H
                  have H := H1
                  clear H1
                  have H' := Aside0.mk H
                  clear H
                  go_wp2
                  go_roundg kj18
                  case measure => have := HK1.out; have := HJ18.out; omega
                  case rel => exact ⟨(false), (wrap64 (x39_1 + 1)), (by first | rfl | (simp; done) | (simp [*]; done)), (by first | rfl | (simp; done) | (simp [*]; done)), H', ⟨by have := HK1.out; have := HJ18.out; omega⟩, ⟨by (with_reducible repeat (first | apply Kd.R_alloc | apply Kd.R_drewN | apply Kd.R_drew)); exact HO_37.out⟩, ⟨by (with_reducible repeat (first | refine blk_drewN ?_ _ | refine blk_drew ?_ | refine blk_alloc ?_ _)); exact BK179.out⟩, ⟨by repeat (first | (with_reducible first | exact HB.out | apply below_alloc | apply pw_below_drewN | apply below_drew1 | refine below_set ?_ GE179.out) | exact HB.out)⟩⟩
          · rw [if_neg c14] at H
            exact absurd H (by simp)
        · rw [if_neg c13] at H
          exact absurd H (by simp)
      · rw [if_neg c12] at H
        have c12b0 : decide (x39_1 < (y182.length : Int)) = false := decide_eq_false c12
        clear c12
        replace H := Option.bind_eq_some_iff.mp H
        obtain ⟨t206, A500, H⟩ := H
        replace H : ((wageofficelaw02_pick.f a1_1 14).bind fun t207 => ((wageofficelaw02_pick.f a1_2 33).bind fun t208 => ((some (([(⟨a1_0, a1_1, a1_2⟩ : S22), (⟨wrap64 (2000 + t206), t207, t208⟩ : S22)] : List (S22)) : List (S22))).bind fun y209 => (wageofficelaw02_CalendarMatchesReference.l1 k1 a2 a3 x9_1 y209 (y209.length : Int) 0)))) = some r := H
        have A50 := Aside0.mk A500
        clear A500
        replace H := Option.bind_eq_some_iff.mp H
        obtain ⟨t207, A510, H⟩ := H
        replace H : ((wageofficelaw02_pick.f a1_2 33).bind fun t208 => ((some (([(⟨a1_0, a1_1, a1_2⟩ : S22), (⟨wrap64 (2000 + t206), t207, t208⟩ : S22)] : List (S22)) : List (S22))).bind fun y209 => (wageofficelaw02_CalendarMatchesReference.l1 k1 a2 a3 x9_1 y209 (y209.length : Int) 0))) = some r := H
        have A51 := Aside0.mk A510
        clear A510
        replace H := Option.bind_eq_some_iff.mp H
        obtain ⟨t208, A520, H⟩ := H
        replace H : ((some (([(⟨a1_0, a1_1, a1_2⟩ : S22), (⟨wrap64 (2000 + t206), t207, t208⟩ : S22)] : List (S22)) : List (S22))).bind fun y209 => (wageofficelaw02_CalendarMatchesReference.l1 k1 a2 a3 x9_1 y209 (y209.length : Int) 0)) = some r := H
        have A52 := Aside0.mk A520
        clear A520
        obtain ⟨y209, hy209⟩ : ∃ y_ : List (S22), y_ = (([(⟨a1_0, a1_1, a1_2⟩ : S22), (⟨wrap64 (2000 + t206), t207, t208⟩ : S22)] : List (S22))) := ⟨_, rfl⟩
        replace H : (wageofficelaw02_CalendarMatchesReference.l1 k1 a2 a3 x9_1 y209 (y209.length : Int) 0) = some r := by first | (rw [hy209]; with_reducible exact H) | (have H2_ := (Option.bind_some _ _).symm.trans H; rw [hy209]; with_reducible exact H2_) | (have H2_ := (Option.bind_some _ _).symm.trans H; with_reducible exact H2_) | with_reducible exact H | (rw [hy209]; exact H) | exact H
        have Ny209 := Aside0.mk hy209
        clear hy209
        have H' := Aside0.mk H
        clear H
        try go_wp2
        have n0_ := Aside0.mk (Kd.R_drew HO_37.out)
        have n1_ := Aside0.mk (blk_drew BK179.out)
        have n2_ := Aside0.mk (below_drew1 HB.out)
        clear HO_37
        clear BK179
        clear HB
        have HO_37 := n0_
        have BK179 := n1_
        have HB := n2_
        clear n0_ n1_ n2_
        refine start_ (n := 15) (S := fun w' => w'.cell? ⟨gb179, 0, none⟩ = some (.int .i64 a1_0) ∧ w'.cell? ⟨gb179, 1, none⟩ = some (.int .i64 a1_1) ∧ w'.cell? ⟨gb179, 2, none⟩ = some (.int .i64 a1_2)) (ds := []) #[false, false, false, false, false, false, false, false, false, false, false, false, false, false, false] (by kernel_rfl) rfl rfl ⟨(blk_cell BK179.out 0).trans rfl, (blk_cell BK179.out 1).trans rfl, (blk_cell BK179.out 2).trans rfl⟩ (fun hHeld => ?_); refine with_tabW wageofficelaw02_CalendarMatchesReference.tab12 wageofficelaw02_CalendarMatchesReference.bits12 (fun HT_ HW_ => ?_)
        generalize wr.drew = w53 at HO_37 BK179 HB hHeld ⊢
        refine pure_ (i := 1) (N := some 131) (v := ?_) (a' := ?_) #[false, true, false, false, false, false, false, false, false, false, false, false, false, false, false] rfl rfl (any_of HT_.out (by kernel_rfl)) (fun _ _ _ h => h) (Or.inl ⟨by rfl, ?_⟩) ?_ ?_
        rotate_left
        · intro w'
          go_simp
          with_reducible rfl
        rotate_left
        · simp only [Act.put, List.setIfInBounds_toArray, List.set_cons_zero, List.set_cons_succ, i64_w, i32_w]
          rfl
        refine pure_ (i := 5) (N := some 135) (v := ?_) (a' := ?_) #[false, true, false, false, false, true, false, false, false, false, false, false, false, false, false] rfl rfl (any_of HT_.out (by kernel_rfl)) (fun _ _ _ h => h) (Or.inl ⟨by rfl, ?_⟩) ?_ ?_
        rotate_left
        · intro w'
          go_simp
          with_reducible rfl
        rotate_left
        · simp only [Act.put, List.setIfInBounds_toArray, List.set_cons_zero, List.set_cons_succ, i64_w, i32_w]
          rfl
        refine pure_ (i := 8) (N := some 138) (v := ?_) (a' := ?_) #[false, true, false, false, false, true, false, false, true, false, false, false, false, false, false] rfl rfl (any_of HT_.out (by kernel_rfl)) (fun _ _ _ h => h) (Or.inl ⟨by rfl, ?_⟩) ?_ ?_
        rotate_left
        · intro w'
          go_simp
          with_reducible rfl
        rotate_left
        · simp only [Act.put, List.setIfInBounds_toArray, List.set_cons_zero, List.set_cons_succ, i64_w, i32_w]
          rfl
        refine pure_ (i := 14) (N := some 144) (v := ?_) (a' := ?_) #[false, true, false, false, false, true, false, false, true, false, false, false, false, false, true] rfl rfl (any_of HT_.out (by kernel_rfl)) (fun _ _ _ h => h) (Or.inl ⟨by rfl, ?_⟩) ?_ ?_
        rotate_left
        · intro w'
          go_simp
          with_reducible rfl
        rotate_left
        · simp only [Act.put, List.setIfInBounds_toArray, List.set_cons_zero, List.set_cons_succ, i64_w, i32_w]
          rfl
        refine take_ (i := 0) (N := some 130) (v := ?_) (a' := ?_) #[true, true, false, false, false, true, false, false, true, false, false, false, false, false, true] rfl rfl (take_ofW HT_.out HW_.out (by kernel_rfl)) (fun _ _ _ h => h) (Or.inl ⟨by rfl, ?_⟩) hHeld ?_ ?_
        rotate_left
        · rintro w' ⟨s0, s1, s2⟩
          go_simp
          with_reducible rfl
        rotate_left
        · simp only [Act.put, List.setIfInBounds_toArray, List.set_cons_zero, List.set_cons_succ, i64_w, i32_w]
          rfl
        refine take_ (i := 2) (N := some 132) (v := ?_) (a' := ?_) #[true, true, true, false, false, true, false, false, true, false, false, false, false, false, true] rfl rfl (take_ofW HT_.out HW_.out (by kernel_rfl)) (fun _ _ _ h => h) (Or.inl ⟨by rfl, ?_⟩) hHeld ?_ ?_
        rotate_left
        · rintro w' ⟨s0, s1, s2⟩
          go_simp
          with_reducible rfl
        rotate_left
        · simp only [Act.put, List.setIfInBounds_toArray, List.set_cons_zero, List.set_cons_succ, i64_w, i32_w]
          rfl
        refine take_ (i := 6) (N := some 136) (v := ?_) (a' := ?_) #[true, true, true, false, false, true, true, false, true, false, false, false, false, false, true] rfl rfl (take_ofW HT_.out HW_.out (by kernel_rfl)) (fun _ _ _ h => h) (Or.inl ⟨by rfl, ?_⟩) hHeld ?_ ?_
        rotate_left
        · rintro w' ⟨s0, s1, s2⟩
          go_simp
          with_reducible rfl
        rotate_left
        · simp only [Act.put, List.setIfInBounds_toArray, List.set_cons_zero, List.set_cons_succ, i64_w, i32_w]
          rfl
        refine take_ (i := 9) (N := some 139) (v := ?_) (a' := ?_) #[true, true, true, false, false, true, true, false, true, true, false, false, false, false, true] rfl rfl (take_ofW HT_.out HW_.out (by kernel_rfl)) (fun _ _ _ h => h) (Or.inl ⟨by rfl, ?_⟩) hHeld ?_ ?_
        rotate_left
        · rintro w' ⟨s0, s1, s2⟩
          go_simp
          with_reducible rfl
        rotate_left
        · simp only [Act.put, List.setIfInBounds_toArray, List.set_cons_zero, List.set_cons_succ, i64_w, i32_w]
          rfl
        refine one_ (i := 3) (N := some 133) #[true, true, true, true, false, true, true, false, true, true, false, false, false, false, true] rfl rfl (one_of HT_.out (by kernel_rfl)) (by decide) (fun K hK => ?_)
        refine goes_ Tryd.func10 (by kernel_rfl) rfl #[.int .i64 a1_0, .int .i64 101] (by rfl) rfl rfl (by (try simp only [List.map_toArray, List.map_cons, List.map_nil]); first | done | rfl | (simp only [List.length_drop, List.length_take]; rfl)) ?_
        with_reducible refine (wageofficelaw02_pick.calls a1_0 101 t206 _ A50.out).mono ?_
        rintro e w' ⟨rfl, ⟨nd, rfl⟩⟩
        refine ⟨_, rfl, ?_⟩
        refine hK.out _ _ ⟨(blk_cell BK179.out 0).trans rfl, (blk_cell BK179.out 1).trans rfl, (blk_cell BK179.out 2).trans rfl⟩ (fun hHeld => ?_)
        clear hK K
        refine norm_ (a' := ?_) ?_ ?_
        rotate_left
        · show Act.put _ (some 133) _ = _
          simp only [Act.put, List.setIfInBounds_toArray, List.set_cons_zero, List.set_cons_succ, i64_w, i32_w]
          rfl
        refine pure_ (i := 4) (N := some 134) (v := ?_) (a' := ?_) #[true, true, true, true, true, true, true, false, true, true, false, false, false, false, true] rfl rfl (any_of HT_.out (by kernel_rfl)) (fun _ _ _ h => h) (Or.inl ⟨by rfl, ?_⟩) ?_ ?_
        rotate_left
        · intro w'
          go_simp
          with_reducible rfl
        rotate_left
        · simp only [Act.put, List.setIfInBounds_toArray, List.set_cons_zero, List.set_cons_succ, i64_w, i32_w]
          rfl
        refine one_ (i := 7) (N := some 137) #[true, true, true, true, true, true, true, true, true, true, false, false, false, false, true] rfl rfl (one_of HT_.out (by kernel_rfl)) (by decide) (fun K hK => ?_)
        refine goes_ Tryd.func10 (by kernel_rfl) rfl #[.int .i64 a1_1, .int .i64 14] (by rfl) rfl rfl (by (try simp only [List.map_toArray, List.map_cons, List.map_nil]); first | done | rfl | (simp only [List.length_drop, List.length_take]; rfl)) ?_
        with_reducible refine (wageofficelaw02_pick.calls a1_1 14 t207 _ A51.out).mono ?_
        rintro e w' ⟨rfl, ⟨nd, rfl⟩⟩
        refine ⟨_, rfl, ?_⟩
        refine hK.out _ _ ⟨(blk_cell BK179.out 0).trans rfl, (blk_cell BK179.out 1).trans rfl, (blk_cell BK179.out 2).trans rfl⟩ (fun hHeld => ?_)
        clear hK K
        refine norm_ (a' := ?_) ?_ ?_
        rotate_left
        · show Act.put _ (some 137) _ = _
          simp only [Act.put, List.setIfInBounds_toArray, List.set_cons_zero, List.set_cons_succ, i64_w, i32_w]
          rfl
        refine one_ (i := 10) (N := some 140) #[true, true, true, true, true, true, true, true, true, true, true, false, false, false, true] rfl rfl (one_of HT_.out (by kernel_rfl)) (by decide) (fun K hK => ?_)
        refine goes_ Tryd.func10 (by kernel_rfl) rfl #[.int .i64 a1_2, .int .i64 33] (by rfl) rfl rfl (by (try simp only [List.map_toArray, List.map_cons, List.map_nil]); first | done | rfl | (simp only [List.length_drop, List.length_take]; rfl)) ?_
        with_reducible refine (wageofficelaw02_pick.calls a1_2 33 t208 _ A52.out).mono ?_
        rintro e w' ⟨rfl, ⟨nd, rfl⟩⟩
        refine ⟨_, rfl, ?_⟩
        refine hK.out _ _ ⟨(blk_cell BK179.out 0).trans rfl, (blk_cell BK179.out 1).trans rfl, (blk_cell BK179.out 2).trans rfl⟩ (fun hHeld => ?_)
        clear hK K
        refine norm_ (a' := ?_) ?_ ?_
        rotate_left
        · show Act.put _ (some 140) _ = _
          simp only [Act.put, List.setIfInBounds_toArray, List.set_cons_zero, List.set_cons_succ, i64_w, i32_w]
          rfl
        refine pure_ (i := 11) (N := some 141) (v := ?_) (a' := ?_) #[true, true, true, true, true, true, true, true, true, true, true, true, false, false, true] rfl rfl (any_of HT_.out (by kernel_rfl)) (fun _ _ _ h => h) (Or.inl ⟨by rfl, ?_⟩) ?_ ?_
        rotate_left
        · intro w'
          go_simp
          with_reducible rfl
        rotate_left
        · simp only [Act.put, List.setIfInBounds_toArray, List.set_cons_zero, List.set_cons_succ, i64_w, i32_w]
          rfl
        refine one_ (i := 12) (N := some 142) #[true, true, true, true, true, true, true, true, true, true, true, true, true, false, true] rfl rfl (one_of HT_.out (by kernel_rfl)) (by decide) (fun K hK => ?_)
        refine Kd.R_lit_step k22 _ 22 ?hg (N := 142) ?hd (xs := ([(⟨a1_0, a1_1, a1_2⟩ : S22), (⟨wrap64 (2000 + t206), t207, t208⟩ : S22)] : List (S22))) (inner := [.int .i64 a1_0, .int .i64 a1_1, .int .i64 a1_2, .int .i64 (wrap64 (2000 + t206)), .int .i64 t207, .int .i64 t208]) (ok := fun _ => True) (okp := fun _ => True) ?hr ?hp (fun _ hk => hk) trivial (Below.refl _ _) (Nat.le_refl _) (by simp) ?_; (case hd => rfl); (case hg => rfl); (case hr => first | (go_simp; done) | (go_simp; rfl)); (case hp => exact (Reps.c3 (show Kd.M k22 _ _ _ (⟨a1_0, a1_1, a1_2⟩ : S22) [.int .i64 a1_0, .int .i64 a1_1, .int .i64 a1_2] from (k22_mkM _ _ _ (⟨a1_0, a1_1, a1_2⟩ : S22) )) (Reps.c3 (show Kd.M k22 _ _ _ (⟨wrap64 (2000 + t206), t207, t208⟩ : S22) [.int .i64 (wrap64 (2000 + t206)), .int .i64 t207, .int .i64 t208] from (k22_mkM _ _ _ (⟨wrap64 (2000 + t206), t207, t208⟩ : S22) )) (Reps.none _ _))))
        intro v210 w54 ho55 hb hg_ hnew_
        clear hg_ hnew_
        (first | rw [← Ny209.out] at ho55 | (simp only [Int.reduceToNat] at ho55; rw [← Ny209.out] at ho55))
        have n0_ := Aside0.mk (Kd.R_below (by (with_reducible repeat (first | apply Kd.R_alloc | apply Kd.R_drewN | apply Kd.R_drew)); exact HO_37.out) hb)
        have n1_ := Aside0.mk (Kd.R_lower (Kd.R_newB ho55 (g := gb179) (o := .cells #[.int .i64 a1_0, .int .i64 a1_1, .int .i64 a1_2] 22 (0, 0)) (by (with_reducible repeat (first | refine blk_drewN ?_ _ | refine blk_drew ?_ | refine blk_alloc ?_ _)); exact BK179.out)) (below_size (by repeat (first | (with_reducible first | exact HB.out | apply below_alloc | apply pw_below_drewN | apply below_drew1 | refine below_set ?_ GE179.out) | exact HB.out))))
        have n2_ := Aside0.mk (blk_below (g := gb179) (o := .cells #[.int .i64 a1_0, .int .i64 a1_1, .int .i64 a1_2] 22 (0, 0)) (by (with_reducible repeat (first | refine blk_drewN ?_ _ | refine blk_drew ?_ | refine blk_alloc ?_ _)); exact BK179.out) hb)
        have n3_ := Aside0.mk (below_step (by repeat (first | (with_reducible first | exact HB.out | apply below_alloc | apply pw_below_drewN | apply below_drew1 | refine below_set ?_ GE179.out) | exact HB.out)) hb)
        clear HO_37
        clear BK179
        clear HB
        have HO_37 := n0_
        have HO211 := n1_
        have BK179 := n2_
        have HB := n3_
        clear n0_ n1_ n2_ n3_
        clear hb ho55
        obtain ⟨Ao56, co56, eo56⟩ := Kd.R_slice HO211.out
        (first | subst eo56 | (injection eo56 with f1_ f2_ f3_; have f4_ := f1_.symm; have f5_ := f3_.symm; clear f1_ f2_ f3_; subst f4_; subst f5_))
        refine hK.out _ _ ⟨(blk_cell BK179.out 0).trans rfl, (blk_cell BK179.out 1).trans rfl, (blk_cell BK179.out 2).trans rfl⟩ (fun hHeld => ?_)
        clear hK K
        refine norm_ (a' := ?_) ?_ ?_
        rotate_left
        · show Act.put _ (some 142) _ = _
          simp only [Act.put, List.setIfInBounds_toArray, List.set_cons_zero, List.set_cons_succ, i64_w, i32_w]
          rfl
        refine pure_ (i := 13) (N := some 143) (v := ?_) (a' := ?_) #[true, true, true, true, true, true, true, true, true, true, true, true, true, true, true] rfl rfl (any_of HT_.out (by kernel_rfl)) (fun _ _ _ h => h) (Or.inl ⟨by rfl, ?_⟩) ?_ ?_
        rotate_left
        · intro w'
          go_simp
          with_reducible rfl
        rotate_left
        · simp only [Act.put, List.setIfInBounds_toArray, List.set_cons_zero, List.set_cons_succ, i64_w, i32_w]
          rfl
        refine done_ (done_of HT_.out (by kernel_rfl)) ?_
        try go_wp2
        go_loopg [9, 144] k1 (fun kq v9 v144 w' => ∃ (x9_2 : Bool) (x144_2 : Int), v9 = .bool x9_2 ∧ v144 = .int .i64 x144_2 ∧ Aside0 (wageofficelaw02_CalendarMatchesReference.l1 kq a2 a3 x9_2 y209 (y209.length : Int) x144_2 = some r) ∧ Aside0 (kq ≤ k1) ∧ Aside0 (Kd.R k22 22 w' w.heap.size (fun k_ => k_ ≠ gb179) (.slice Ao56 y209.length co56) y209) ∧ Aside0 (w'.heap[gb179]? = some (.cells #[.int .i64 a1_0, .int .i64 a1_1, .int .i64 a1_2] 22 (0, 0))) ∧ Aside0 (Below w.heap.size w w'))
        case atStart => exact ⟨(x9_1), (0), (by first | rfl | (simp; done) | (simp [*]; done)), (by first | rfl | (simp; done) | (simp [*]; done)), H', ⟨Nat.le_refl _⟩, ⟨by (with_reducible repeat (first | apply Kd.R_alloc | apply Kd.R_drewN | apply Kd.R_drew)); exact Kd.R_mono HO211.out (fun _ hk => hk.2)⟩, ⟨by (with_reducible repeat (first | refine blk_drewN ?_ _ | refine blk_drew ?_ | refine blk_alloc ?_ _)); exact BK179.out⟩, ⟨by repeat (first | (with_reducible first | exact HB.out | apply below_alloc | apply pw_below_drewN | apply below_drew1 | refine below_set ?_ GE179.out) | exact HB.out)⟩⟩
        case round =>
          clear H'
          try clear c1
          try clear p1
          try clear q1
          try clear hx1
          try clear c2
          try clear p2
          try clear c3
          try clear c4
          try clear p6
          try clear c9
          try clear c10
          try clear c11
          try clear c12
          try clear c12b0
          try clear c13
          try clear c13b0
          try clear c14
          try clear c14b0
          try clear p18
          try clear q18
          try clear hx18
          try clear c23
          try clear c24
          try clear c24b0
          try clear c24b1
          try clear c25
          try clear c25b0
          try clear c25b1
          try clear c26
          try clear c26b0
          try clear c26b1
          try clear c27
          try clear c27b0
          try clear c27b1
          try clear c28
          try clear c28b0
          try clear c28b1
          try clear c31
          try clear c31b0
          try clear c31b1
          try clear c34
          try clear c34b0
          try clear c34b1
          try clear c41
          try clear c44
          try clear c44b0
          try clear c44b1
          try clear hx185_0
          try clear p1
          try clear p18
          try clear p185
          try clear p2
          try clear q1
          try clear q18
          try clear q185
          obtain ⟨x9_2, x144_2, rfl, rfl, HA, HK2, HO_142, BK179, HB⟩ := hrel
          cases gk with
          | zero => exact absurd HA.out (by simp [wageofficelaw02_CalendarMatchesReference.l1])
          | succ k2 =>
            have H := HA.out
            clear HA
            simp only [wageofficelaw02_CalendarMatchesReference.l1] at H
            by_cases c57 : x144_2 < (y209.length : Int)
            · rw [if_pos c57] at H
              have c57b0 : decide (x144_2 < (y209.length : Int)) = true := decide_eq_true c57
              clear c57
              by_cases c58 : 0 ≤ x144_2
              · rw [if_pos c58] at H
                have c58b0 : decide (0 ≤ x144_2) = true := decide_eq_true c58
                clear c58
                by_cases c59 : x144_2 < (y209.length : Int)
                · rw [if_pos c59] at H
                  have c59b0 : decide (x144_2 < (y209.length : Int)) = true := decide_eq_true c59
                  clear c59
                  replace H := Option.bind_eq_some_iff.mp H
                  obtain ⟨⟨t214, t215⟩, A600, H⟩ := H
                  replace H : ((wageofficeref02_Day.f k2 ((rd_T22 y209 x144_2).f0) ((rd_T22 y209 x144_2).f1) ((rd_T22 y209 x144_2).f2)).bind fun bt216 => (if x9_2 = true then (if t214 = bt216.1 then (wageofficelaw02_CalendarMatchesReference.l1 k2 a2 a3 (t215 == bt216.2) y209 (y209.length : Int) (wrap64 (x144_2 + 1))) else (wageofficelaw02_CalendarMatchesReference.l1 k2 a2 a3 false y209 (y209.length : Int) (wrap64 (x144_2 + 1)))) else (wageofficelaw02_CalendarMatchesReference.l1 k2 a2 a3 false y209 (y209.length : Int) (wrap64 (x144_2 + 1))))) = some r := H
                  have A60 := Aside0.mk A600
                  clear A600
                  replace H := Option.bind_eq_some_iff.mp H
                  obtain ⟨⟨t216, t217⟩, A610, H⟩ := H
                  replace H : (if x9_2 = true then (if t214 = t216 then (wageofficelaw02_CalendarMatchesReference.l1 k2 a2 a3 (t215 == t217) y209 (y209.length : Int) (wrap64 (x144_2 + 1))) else (wageofficelaw02_CalendarMatchesReference.l1 k2 a2 a3 false y209 (y209.length : Int) (wrap64 (x144_2 + 1)))) else (wageofficelaw02_CalendarMatchesReference.l1 k2 a2 a3 false y209 (y209.length : Int) (wrap64 (x144_2 + 1)))) = some r := H
                  have A61 := Aside0.mk A610
                  clear A610
                  by_cases c62 : x9_2 = true
                  · subst c62
                    have H1 : (if t214 = t216 then (wageofficelaw02_CalendarMatchesReference.l1 k2 a2 a3 (t215 == t217) y209 (y209.length : Int) (wrap64 (x144_2 + 1))) else (wageofficelaw02_CalendarMatchesReference.l1 k2 a2 a3 false y209 (y209.length : Int) (wrap64 (x144_2 + 1)))) = some r := by rw [if_pos rfl] at H; exact H
                    clear H
                    have H := H1
                    clear H1
                    by_cases c63 : t214 = t216
                    · rw [if_pos c63] at H
                      have c63b0 : (t214 == t216) = true := beq_iff_eq.mpr c63
                      have c63b1 : (t214 != t216) = false := bne_eq_false_iff_eq.mpr c63
                      clear c63
                      have H' := Aside0.mk H
                      clear H
                      have p212 : 0 ≤ (x144_2 : Int) := of_decide_eq_true (by first | (with_reducible assumption) | assumption)
                      have q212 : x144_2 < (y209.length : Int) := of_decide_eq_true (by first | (with_reducible assumption) | assumption)
                      obtain ⟨ad212, e212, hx212_0, hx212_1, hx212_2⟩ := at_T22 (Kd.R_reads' HO_142.out).2.2 x144_2 p212 q212
                      cases e212
                      replace p212 := eq_true p212
                      replace q212 := eq_true q212
                      go_wp2_with (first | ((with_reducible refine gate_dst (N := 23) rfl ?_); refine box_event ?hg (N := 23) ?hd (cs := #[.int .i64 0, .int .i64 0, .int .i64 0]) (t := 22) ?hr ?_; (case hd => rfl); (case hg => rfl); (case hr => first | (go_simp; done) | (go_simp; rfl)); intro gb213 hg w64 hbox hb; have n0_ := Aside0.mk (Kd.R_below (Kd.R_elderB (by (with_reducible repeat (first | apply Kd.R_alloc | apply Kd.R_drewN | apply Kd.R_drew)); exact HO_142.out) gb213 (Nat.le_of_eq hg.symm)) hb); have n1_ := Aside0.mk (blk_below (g := gb179) (o := .cells #[.int .i64 a1_0, .int .i64 a1_1, .int .i64 a1_2] 22 (0, 0)) (by (with_reducible repeat (first | refine blk_drewN ?_ _ | refine blk_drew ?_ | refine blk_alloc ?_ _)); exact BK179.out) hb); have n2_ := Aside0.mk (below_step (by repeat (first | (with_reducible first | exact HB.out | apply below_alloc | apply pw_below_drewN | apply below_drew1 | refine below_set ?_ GE179.out) | exact HB.out)) hb); have n3_ := Aside0.mk (hbox); have n4_ := Aside0.mk ((by rw [hg]; exact (below_size (by repeat (first | (with_reducible first | exact HB.out | apply below_alloc | apply pw_below_drewN | apply below_drew1 | refine below_set ?_ GE179.out) | exact HB.out))) : w.heap.size ≤ gb213)); have n5_ := Aside0.mk ((by rw [hg]; exact (below_size (by repeat (first | (with_reducible first | exact HB.out | apply below_alloc | apply pw_below_drewN | apply below_drew1 | refine below_set ?_ GE179.out) | exact HB.out))) : w.heap.size ≤ gb213)); have n6_ := Aside0.mk ((by rw [hg]; exact Nat.ne_of_lt (blk_lt (g := gb179) (o := .cells #[.int .i64 a1_0, .int .i64 a1_1, .int .i64 a1_2] 22 (0, 0)) (by (with_reducible repeat (first | refine blk_drewN ?_ _ | refine blk_drew ?_ | refine blk_alloc ?_ _)); exact BK179.out)) : gb179 ≠ gb213)); have n7_ := Aside0.mk ((by rw [hg]; exact Nat.ne_of_gt (blk_lt (g := gb179) (o := .cells #[.int .i64 a1_0, .int .i64 a1_1, .int .i64 a1_2] 22 (0, 0)) (by (with_reducible repeat (first | refine blk_drewN ?_ _ | refine blk_drew ?_ | refine blk_alloc ?_ _)); exact BK179.out)) : gb213 ≠ gb179)); clear HO_142; clear BK179; clear HB; have HO_142 := n0_; have BK179 := n1_; have HB := n2_; have BK213 := n3_; have GW213 := n4_; have GE213 := n5_; have NB179_213 := n6_; have NB213_179 := n7_; clear n0_ n1_ n2_ n3_ n4_ n5_ n6_ n7_; clear hb hbox hg; have hnb65 := NB213_179.out; have hnc65 := NB179_213.out; have hcz66_0 : w64.cell? ⟨gb213, 0, none⟩ = some (.int .i64 0) := (blk_cell BK213.out 0).trans rfl; have hcz66_1 : w64.cell? ⟨gb213, 1, none⟩ = some (.int .i64 0) := (blk_cell BK213.out 1).trans rfl; have hcz66_2 : w64.cell? ⟨gb213, 2, none⟩ = some (.int .i64 0) := (blk_cell BK213.out 2).trans rfl; have hfz66_0 := blk_frozen BK213.out 0; have hfz66_1 := blk_frozen BK213.out 1; have hfz66_2 := blk_frozen BK213.out 2) | ((with_reducible refine gate_callee (f := 25) rfl ?_); refine goesL_ (some 155) rfl rfl Tryd.func25 (by kernel_rfl) rfl #[.int .i64 ((rd_T22 y209 x144_2).f0), .int .i64 ((rd_T22 y209 x144_2).f1), .int .i64 ((rd_T22 y209 x144_2).f2)] rfl (by (try simp only [List.map_toArray, List.map_cons, List.map_nil]); first | done | rfl | (simp only [List.length_drop, List.length_take]; rfl)) ?_; (with_reducible refine (calendar_Day.calls ((rd_T22 y209 x144_2).f0) ((rd_T22 y209 x144_2).f1) ((rd_T22 y209 x144_2).f2) t214 t215 _ A60.out (TabBefore.below hTBefore.out (by repeat (first | exact HB.out | exact Below.refl _ _ | apply below_alloc | apply pw_below_drewN | apply below_drew1 | apply below_drew | refine below_set ?_ GE179.out | refine below_set ?_ GE213.out)))).mono ?_); rintro e w67 ⟨rfl, hb⟩; refine ⟨_, rfl, ?_⟩; have n0_ := Aside0.mk (Kd.R_below (by (with_reducible repeat (first | apply Kd.R_alloc | apply Kd.R_drewN | apply Kd.R_drew)); exact (Kd.R_mono (Kd.R_far (p := ⟨gb213, 2, none⟩) (Kd.R_far (p := ⟨gb213, 1, none⟩) (Kd.R_far (p := ⟨gb213, 0, none⟩) (Kd.R_mono HO_142.out (fun k_ hk => (⟨hk, hk.2⟩ : _ ∧ k_ ≠ gb213))) (fun _ hk => hk.2) (.int .i64 ((rd_T22 y209 x144_2).f0))) (fun _ hk => hk.2) (.int .i64 ((rd_T22 y209 x144_2).f1))) (fun _ hk => hk.2) (.int .i64 ((rd_T22 y209 x144_2).f2))) (fun _ h_ => h_.1))) hb); have n1_ := Aside0.mk (blk_below (g := gb179) (o := .cells #[.int .i64 a1_0, .int .i64 a1_1, .int .i64 a1_2] 22 (0, 0)) (by (with_reducible repeat (first | refine blk_drewN ?_ _ | refine blk_drew ?_ | refine blk_alloc ?_ _)); refine blk_far ?_ NB179_213.out _; (with_reducible repeat (first | refine blk_drewN ?_ _ | refine blk_drew ?_ | refine blk_alloc ?_ _)); refine blk_far ?_ NB179_213.out _; (with_reducible repeat (first | refine blk_drewN ?_ _ | refine blk_drew ?_ | refine blk_alloc ?_ _)); refine blk_far ?_ NB179_213.out _; (with_reducible repeat (first | refine blk_drewN ?_ _ | refine blk_drew ?_ | refine blk_alloc ?_ _)); exact BK179.out) hb); have n2_ := Aside0.mk (blk_below (g := gb213) (o := .cells #[.int .i64 ((rd_T22 y209 x144_2).f0), .int .i64 ((rd_T22 y209 x144_2).f1), .int .i64 ((rd_T22 y209 x144_2).f2)] 22 (0, 0)) (by (with_reducible repeat (first | refine blk_drewN ?_ _ | refine blk_drew ?_ | refine blk_alloc ?_ _)); refine blk_put (cs := #[.int .i64 ((rd_T22 y209 x144_2).f0), .int .i64 ((rd_T22 y209 x144_2).f1), .int .i64 0]) ?_ 2 _ rfl; (with_reducible repeat (first | refine blk_drewN ?_ _ | refine blk_drew ?_ | refine blk_alloc ?_ _)); refine blk_put (cs := #[.int .i64 ((rd_T22 y209 x144_2).f0), .int .i64 0, .int .i64 0]) ?_ 1 _ rfl; (with_reducible repeat (first | refine blk_drewN ?_ _ | refine blk_drew ?_ | refine blk_alloc ?_ _)); refine blk_put (cs := #[.int .i64 0, .int .i64 0, .int .i64 0]) ?_ 0 _ rfl; (with_reducible repeat (first | refine blk_drewN ?_ _ | refine blk_drew ?_ | refine blk_alloc ?_ _)); exact BK213.out) hb); have n3_ := Aside0.mk (below_step (by repeat (first | (with_reducible first | exact HB.out | apply below_alloc | apply pw_below_drewN | apply below_drew1 | refine below_set ?_ GE179.out | refine below_set ?_ GE213.out) | exact HB.out)) hb); clear HO_142; clear BK179; clear BK213; clear HB; have HO_142 := n0_; have BK179 := n1_; have BK213 := n2_; have HB := n3_; clear n0_ n1_ n2_ n3_; (try clear hb); (try clear hb2); (try clear hk); (try clear hi); have hcz68_0 : w67.cell? ⟨gb213, 0, none⟩ = some (.int .i64 ((rd_T22 y209 x144_2).f0)) := (blk_cell BK213.out 0).trans rfl; have hcz68_1 : w67.cell? ⟨gb213, 1, none⟩ = some (.int .i64 ((rd_T22 y209 x144_2).f1)) := (blk_cell BK213.out 1).trans rfl; have hcz68_2 : w67.cell? ⟨gb213, 2, none⟩ = some (.int .i64 ((rd_T22 y209 x144_2).f2)) := (blk_cell BK213.out 2).trans rfl; have hfz68_0 := blk_frozen BK213.out 0; have hfz68_1 := blk_frozen BK213.out 1; have hfz68_2 := blk_frozen BK213.out 2) | ((with_reducible refine gate_callee (f := 26) rfl ?_); refine goesL_ (some 165) rfl rfl Tryd.func26 (by kernel_rfl) rfl #[.int .i64 ((rd_T22 y209 x144_2).f0), .int .i64 ((rd_T22 y209 x144_2).f1), .int .i64 ((rd_T22 y209 x144_2).f2)] rfl (by (try simp only [List.map_toArray, List.map_cons, List.map_nil]); first | done | rfl | (simp only [List.length_drop, List.length_take]; rfl)) ?_; (with_reducible refine (wageofficeref02_Day.calls k2 ((rd_T22 y209 x144_2).f0) ((rd_T22 y209 x144_2).f1) ((rd_T22 y209 x144_2).f2) t216 t217 _ A61.out).mono ?_); rintro e w' ⟨rfl, ⟨nd, rfl⟩⟩; refine ⟨_, rfl, ?_⟩))
                      go_roundg k2
                      case measure => have := HK1.out; have := HK2.out; omega
                      case rel => exact ⟨((t215 == t217)), (wrap64 (x144_2 + 1)), (by first | rfl | (simp; done) | (simp [*]; done)), (by first | rfl | (simp; done) | (simp [*]; done)), H', ⟨by have := HK1.out; have := HK2.out; omega⟩, ⟨by (with_reducible repeat (first | apply Kd.R_alloc | apply Kd.R_drewN | apply Kd.R_drew)); exact Kd.R_mono HO_142.out (fun _ hk => hk.1)⟩, ⟨by (with_reducible repeat (first | refine blk_drewN ?_ _ | refine blk_drew ?_ | refine blk_alloc ?_ _)); exact BK179.out⟩, ⟨by repeat (first | (with_reducible first | exact HB.out | apply below_alloc | apply pw_below_drewN | apply below_drew1 | refine below_set ?_ GE179.out | refine below_set ?_ GE213.out) | exact HB.out)⟩⟩
                    · rw [if_neg c63] at H
                      have c63b0 : (t214 == t216) = false := beq_eq_false_iff_ne.mpr c63
                      have c63b1 : (t214 != t216) = true := bne_iff_ne.mpr c63
                      have H' := Aside0.mk H
                      clear H
                      have p212 : 0 ≤ (x144_2 : Int) := of_decide_eq_true (by first | (with_reducible assumption) | assumption)
                      have q212 : x144_2 < (y209.length : Int) := of_decide_eq_true (by first | (with_reducible assumption) | assumption)
                      obtain ⟨ad212, e212, hx212_0, hx212_1, hx212_2⟩ := at_T22 (Kd.R_reads' HO_142.out).2.2 x144_2 p212 q212
                      cases e212
                      replace p212 := eq_true p212
                      replace q212 := eq_true q212
                      go_wp2_with (first | ((with_reducible refine gate_dst (N := 23) rfl ?_); refine box_event ?hg (N := 23) ?hd (cs := #[.int .i64 0, .int .i64 0, .int .i64 0]) (t := 22) ?hr ?_; (case hd => rfl); (case hg => rfl); (case hr => first | (go_simp; done) | (go_simp; rfl)); intro gb213 hg w69 hbox hb; have n0_ := Aside0.mk (Kd.R_below (Kd.R_elderB (by (with_reducible repeat (first | apply Kd.R_alloc | apply Kd.R_drewN | apply Kd.R_drew)); exact HO_142.out) gb213 (Nat.le_of_eq hg.symm)) hb); have n1_ := Aside0.mk (blk_below (g := gb179) (o := .cells #[.int .i64 a1_0, .int .i64 a1_1, .int .i64 a1_2] 22 (0, 0)) (by (with_reducible repeat (first | refine blk_drewN ?_ _ | refine blk_drew ?_ | refine blk_alloc ?_ _)); exact BK179.out) hb); have n2_ := Aside0.mk (below_step (by repeat (first | (with_reducible first | exact HB.out | apply below_alloc | apply pw_below_drewN | apply below_drew1 | refine below_set ?_ GE179.out) | exact HB.out)) hb); have n3_ := Aside0.mk (hbox); have n4_ := Aside0.mk ((by rw [hg]; exact (below_size (by repeat (first | (with_reducible first | exact HB.out | apply below_alloc | apply pw_below_drewN | apply below_drew1 | refine below_set ?_ GE179.out) | exact HB.out))) : w.heap.size ≤ gb213)); have n5_ := Aside0.mk ((by rw [hg]; exact (below_size (by repeat (first | (with_reducible first | exact HB.out | apply below_alloc | apply pw_below_drewN | apply below_drew1 | refine below_set ?_ GE179.out) | exact HB.out))) : w.heap.size ≤ gb213)); have n6_ := Aside0.mk ((by rw [hg]; exact Nat.ne_of_lt (blk_lt (g := gb179) (o := .cells #[.int .i64 a1_0, .int .i64 a1_1, .int .i64 a1_2] 22 (0, 0)) (by (with_reducible repeat (first | refine blk_drewN ?_ _ | refine blk_drew ?_ | refine blk_alloc ?_ _)); exact BK179.out)) : gb179 ≠ gb213)); have n7_ := Aside0.mk ((by rw [hg]; exact Nat.ne_of_gt (blk_lt (g := gb179) (o := .cells #[.int .i64 a1_0, .int .i64 a1_1, .int .i64 a1_2] 22 (0, 0)) (by (with_reducible repeat (first | refine blk_drewN ?_ _ | refine blk_drew ?_ | refine blk_alloc ?_ _)); exact BK179.out)) : gb213 ≠ gb179)); clear HO_142; clear BK179; clear HB; have HO_142 := n0_; have BK179 := n1_; have HB := n2_; have BK213 := n3_; have GW213 := n4_; have GE213 := n5_; have NB179_213 := n6_; have NB213_179 := n7_; clear n0_ n1_ n2_ n3_ n4_ n5_ n6_ n7_; clear hb hbox hg; have hnb70 := NB213_179.out; have hnc70 := NB179_213.out; have hcz71_0 : w69.cell? ⟨gb213, 0, none⟩ = some (.int .i64 0) := (blk_cell BK213.out 0).trans rfl; have hcz71_1 : w69.cell? ⟨gb213, 1, none⟩ = some (.int .i64 0) := (blk_cell BK213.out 1).trans rfl; have hcz71_2 : w69.cell? ⟨gb213, 2, none⟩ = some (.int .i64 0) := (blk_cell BK213.out 2).trans rfl; have hfz71_0 := blk_frozen BK213.out 0; have hfz71_1 := blk_frozen BK213.out 1; have hfz71_2 := blk_frozen BK213.out 2) | ((with_reducible refine gate_callee (f := 25) rfl ?_); refine goesL_ (some 155) rfl rfl Tryd.func25 (by kernel_rfl) rfl #[.int .i64 ((rd_T22 y209 x144_2).f0), .int .i64 ((rd_T22 y209 x144_2).f1), .int .i64 ((rd_T22 y209 x144_2).f2)] rfl (by (try simp only [List.map_toArray, List.map_cons, List.map_nil]); first | done | rfl | (simp only [List.length_drop, List.length_take]; rfl)) ?_; (with_reducible refine (calendar_Day.calls ((rd_T22 y209 x144_2).f0) ((rd_T22 y209 x144_2).f1) ((rd_T22 y209 x144_2).f2) t214 t215 _ A60.out (TabBefore.below hTBefore.out (by repeat (first | exact HB.out | exact Below.refl _ _ | apply below_alloc | apply pw_below_drewN | apply below_drew1 | apply below_drew | refine below_set ?_ GE179.out | refine below_set ?_ GE213.out)))).mono ?_); rintro e w72 ⟨rfl, hb⟩; refine ⟨_, rfl, ?_⟩; have n0_ := Aside0.mk (Kd.R_below (by (with_reducible repeat (first | apply Kd.R_alloc | apply Kd.R_drewN | apply Kd.R_drew)); exact (Kd.R_mono (Kd.R_far (p := ⟨gb213, 2, none⟩) (Kd.R_far (p := ⟨gb213, 1, none⟩) (Kd.R_far (p := ⟨gb213, 0, none⟩) (Kd.R_mono HO_142.out (fun k_ hk => (⟨hk, hk.2⟩ : _ ∧ k_ ≠ gb213))) (fun _ hk => hk.2) (.int .i64 ((rd_T22 y209 x144_2).f0))) (fun _ hk => hk.2) (.int .i64 ((rd_T22 y209 x144_2).f1))) (fun _ hk => hk.2) (.int .i64 ((rd_T22 y209 x144_2).f2))) (fun _ h_ => h_.1))) hb); have n1_ := Aside0.mk (blk_below (g := gb179) (o := .cells #[.int .i64 a1_0, .int .i64 a1_1, .int .i64 a1_2] 22 (0, 0)) (by (with_reducible repeat (first | refine blk_drewN ?_ _ | refine blk_drew ?_ | refine blk_alloc ?_ _)); refine blk_far ?_ NB179_213.out _; (with_reducible repeat (first | refine blk_drewN ?_ _ | refine blk_drew ?_ | refine blk_alloc ?_ _)); refine blk_far ?_ NB179_213.out _; (with_reducible repeat (first | refine blk_drewN ?_ _ | refine blk_drew ?_ | refine blk_alloc ?_ _)); refine blk_far ?_ NB179_213.out _; (with_reducible repeat (first | refine blk_drewN ?_ _ | refine blk_drew ?_ | refine blk_alloc ?_ _)); exact BK179.out) hb); have n2_ := Aside0.mk (blk_below (g := gb213) (o := .cells #[.int .i64 ((rd_T22 y209 x144_2).f0), .int .i64 ((rd_T22 y209 x144_2).f1), .int .i64 ((rd_T22 y209 x144_2).f2)] 22 (0, 0)) (by (with_reducible repeat (first | refine blk_drewN ?_ _ | refine blk_drew ?_ | refine blk_alloc ?_ _)); refine blk_put (cs := #[.int .i64 ((rd_T22 y209 x144_2).f0), .int .i64 ((rd_T22 y209 x144_2).f1), .int .i64 0]) ?_ 2 _ rfl; (with_reducible repeat (first | refine blk_drewN ?_ _ | refine blk_drew ?_ | refine blk_alloc ?_ _)); refine blk_put (cs := #[.int .i64 ((rd_T22 y209 x144_2).f0), .int .i64 0, .int .i64 0]) ?_ 1 _ rfl; (with_reducible repeat (first | refine blk_drewN ?_ _ | refine blk_drew ?_ | refine blk_alloc ?_ _)); refine blk_put (cs := #[.int .i64 0, .int .i64 0, .int .i64 0]) ?_ 0 _ rfl; (with_reducible repeat (first | refine blk_drewN ?_ _ | refine blk_drew ?_ | refine blk_alloc ?_ _)); exact BK213.out) hb); have n3_ := Aside0.mk (below_step (by repeat (first | (with_reducible first | exact HB.out | apply below_alloc | apply pw_below_drewN | apply below_drew1 | refine below_set ?_ GE179.out | refine below_set ?_ GE213.out) | exact HB.out)) hb); clear HO_142; clear BK179; clear BK213; clear HB; have HO_142 := n0_; have BK179 := n1_; have BK213 := n2_; have HB := n3_; clear n0_ n1_ n2_ n3_; (try clear hb); (try clear hb2); (try clear hk); (try clear hi); have hcz73_0 : w72.cell? ⟨gb213, 0, none⟩ = some (.int .i64 ((rd_T22 y209 x144_2).f0)) := (blk_cell BK213.out 0).trans rfl; have hcz73_1 : w72.cell? ⟨gb213, 1, none⟩ = some (.int .i64 ((rd_T22 y209 x144_2).f1)) := (blk_cell BK213.out 1).trans rfl; have hcz73_2 : w72.cell? ⟨gb213, 2, none⟩ = some (.int .i64 ((rd_T22 y209 x144_2).f2)) := (blk_cell BK213.out 2).trans rfl; have hfz73_0 := blk_frozen BK213.out 0; have hfz73_1 := blk_frozen BK213.out 1; have hfz73_2 := blk_frozen BK213.out 2) | ((with_reducible refine gate_callee (f := 26) rfl ?_); refine goesL_ (some 165) rfl rfl Tryd.func26 (by kernel_rfl) rfl #[.int .i64 ((rd_T22 y209 x144_2).f0), .int .i64 ((rd_T22 y209 x144_2).f1), .int .i64 ((rd_T22 y209 x144_2).f2)] rfl (by (try simp only [List.map_toArray, List.map_cons, List.map_nil]); first | done | rfl | (simp only [List.length_drop, List.length_take]; rfl)) ?_; (with_reducible refine (wageofficeref02_Day.calls k2 ((rd_T22 y209 x144_2).f0) ((rd_T22 y209 x144_2).f1) ((rd_T22 y209 x144_2).f2) t216 t217 _ A61.out).mono ?_); rintro e w' ⟨rfl, ⟨nd, rfl⟩⟩; refine ⟨_, rfl, ?_⟩))
                      go_roundg k2
                      case measure => have := HK1.out; have := HK2.out; omega
                      case rel => exact ⟨(false), (wrap64 (x144_2 + 1)), (by first | rfl | (simp; done) | (simp [*]; done)), (by first | rfl | (simp; done) | (simp [*]; done)), H', ⟨by have := HK1.out; have := HK2.out; omega⟩, ⟨by (with_reducible repeat (first | apply Kd.R_alloc | apply Kd.R_drewN | apply Kd.R_drew)); exact Kd.R_mono HO_142.out (fun _ hk => hk.1)⟩, ⟨by (with_reducible repeat (first | refine blk_drewN ?_ _ | refine blk_drew ?_ | refine blk_alloc ?_ _)); exact BK179.out⟩, ⟨by repeat (first | (with_reducible first | exact HB.out | apply below_alloc | apply pw_below_drewN | apply below_drew1 | refine below_set ?_ GE179.out | refine below_set ?_ GE213.out) | exact HB.out)⟩⟩
                  · replace c62 := Bool.eq_false_iff.mpr c62
                    subst c62
                    have H1 : (wageofficelaw02_CalendarMatchesReference.l1 k2 a2 a3 false y209 (y209.length : Int) (wrap64 (x144_2 + 1))) = some r := by rw [if_neg (show ¬ (false = true) by decide)] at H; exact H
                    clear H
                    have H := H1
                    clear H1
                    have H' := Aside0.mk H
                    clear H
                    have p212 : 0 ≤ (x144_2 : Int) := of_decide_eq_true (by first | (with_reducible assumption) | assumption)
                    have q212 : x144_2 < (y209.length : Int) := of_decide_eq_true (by first | (with_reducible assumption) | assumption)
                    obtain ⟨ad212, e212, hx212_0, hx212_1, hx212_2⟩ := at_T22 (Kd.R_reads' HO_142.out).2.2 x144_2 p212 q212
                    cases e212
                    replace p212 := eq_true p212
                    replace q212 := eq_true q212
                    go_wp2_with (first | ((with_reducible refine gate_dst (N := 23) rfl ?_); refine box_event ?hg (N := 23) ?hd (cs := #[.int .i64 0, .int .i64 0, .int .i64 0]) (t := 22) ?hr ?_; (case hd => rfl); (case hg => rfl); (case hr => first | (go_simp; done) | (go_simp; rfl)); intro gb213 hg w74 hbox hb; have n0_ := Aside0.mk (Kd.R_below (Kd.R_elderB (by (with_reducible repeat (first | apply Kd.R_alloc | apply Kd.R_drewN | apply Kd.R_drew)); exact HO_142.out) gb213 (Nat.le_of_eq hg.symm)) hb); have n1_ := Aside0.mk (blk_below (g := gb179) (o := .cells #[.int .i64 a1_0, .int .i64 a1_1, .int .i64 a1_2] 22 (0, 0)) (by (with_reducible repeat (first | refine blk_drewN ?_ _ | refine blk_drew ?_ | refine blk_alloc ?_ _)); exact BK179.out) hb); have n2_ := Aside0.mk (below_step (by repeat (first | (with_reducible first | exact HB.out | apply below_alloc | apply pw_below_drewN | apply below_drew1 | refine below_set ?_ GE179.out) | exact HB.out)) hb); have n3_ := Aside0.mk (hbox); have n4_ := Aside0.mk ((by rw [hg]; exact (below_size (by repeat (first | (with_reducible first | exact HB.out | apply below_alloc | apply pw_below_drewN | apply below_drew1 | refine below_set ?_ GE179.out) | exact HB.out))) : w.heap.size ≤ gb213)); have n5_ := Aside0.mk ((by rw [hg]; exact (below_size (by repeat (first | (with_reducible first | exact HB.out | apply below_alloc | apply pw_below_drewN | apply below_drew1 | refine below_set ?_ GE179.out) | exact HB.out))) : w.heap.size ≤ gb213)); have n6_ := Aside0.mk ((by rw [hg]; exact Nat.ne_of_lt (blk_lt (g := gb179) (o := .cells #[.int .i64 a1_0, .int .i64 a1_1, .int .i64 a1_2] 22 (0, 0)) (by (with_reducible repeat (first | refine blk_drewN ?_ _ | refine blk_drew ?_ | refine blk_alloc ?_ _)); exact BK179.out)) : gb179 ≠ gb213)); have n7_ := Aside0.mk ((by rw [hg]; exact Nat.ne_of_gt (blk_lt (g := gb179) (o := .cells #[.int .i64 a1_0, .int .i64 a1_1, .int .i64 a1_2] 22 (0, 0)) (by (with_reducible repeat (first | refine blk_drewN ?_ _ | refine blk_drew ?_ | refine blk_alloc ?_ _)); exact BK179.out)) : gb213 ≠ gb179)); clear HO_142; clear BK179; clear HB; have HO_142 := n0_; have BK179 := n1_; have HB := n2_; have BK213 := n3_; have GW213 := n4_; have GE213 := n5_; have NB179_213 := n6_; have NB213_179 := n7_; clear n0_ n1_ n2_ n3_ n4_ n5_ n6_ n7_; clear hb hbox hg; have hnb75 := NB213_179.out; have hnc75 := NB179_213.out; have hcz76_0 : w74.cell? ⟨gb213, 0, none⟩ = some (.int .i64 0) := (blk_cell BK213.out 0).trans rfl; have hcz76_1 : w74.cell? ⟨gb213, 1, none⟩ = some (.int .i64 0) := (blk_cell BK213.out 1).trans rfl; have hcz76_2 : w74.cell? ⟨gb213, 2, none⟩ = some (.int .i64 0) := (blk_cell BK213.out 2).trans rfl; have hfz76_0 := blk_frozen BK213.out 0; have hfz76_1 := blk_frozen BK213.out 1; have hfz76_2 := blk_frozen BK213.out 2) | ((with_reducible refine gate_callee (f := 25) rfl ?_); refine goesL_ (some 155) rfl rfl Tryd.func25 (by kernel_rfl) rfl #[.int .i64 ((rd_T22 y209 x144_2).f0), .int .i64 ((rd_T22 y209 x144_2).f1), .int .i64 ((rd_T22 y209 x144_2).f2)] rfl (by (try simp only [List.map_toArray, List.map_cons, List.map_nil]); first | done | rfl | (simp only [List.length_drop, List.length_take]; rfl)) ?_; (with_reducible refine (calendar_Day.calls ((rd_T22 y209 x144_2).f0) ((rd_T22 y209 x144_2).f1) ((rd_T22 y209 x144_2).f2) t214 t215 _ A60.out (TabBefore.below hTBefore.out (by repeat (first | exact HB.out | exact Below.refl _ _ | apply below_alloc | apply pw_below_drewN | apply below_drew1 | apply below_drew | refine below_set ?_ GE179.out | refine below_set ?_ GE213.out)))).mono ?_); rintro e w77 ⟨rfl, hb⟩; refine ⟨_, rfl, ?_⟩; have n0_ := Aside0.mk (Kd.R_below (by (with_reducible repeat (first | apply Kd.R_alloc | apply Kd.R_drewN | apply Kd.R_drew)); exact (Kd.R_mono (Kd.R_far (p := ⟨gb213, 2, none⟩) (Kd.R_far (p := ⟨gb213, 1, none⟩) (Kd.R_far (p := ⟨gb213, 0, none⟩) (Kd.R_mono HO_142.out (fun k_ hk => (⟨hk, hk.2⟩ : _ ∧ k_ ≠ gb213))) (fun _ hk => hk.2) (.int .i64 ((rd_T22 y209 x144_2).f0))) (fun _ hk => hk.2) (.int .i64 ((rd_T22 y209 x144_2).f1))) (fun _ hk => hk.2) (.int .i64 ((rd_T22 y209 x144_2).f2))) (fun _ h_ => h_.1))) hb); have n1_ := Aside0.mk (blk_below (g := gb179) (o := .cells #[.int .i64 a1_0, .int .i64 a1_1, .int .i64 a1_2] 22 (0, 0)) (by (with_reducible repeat (first | refine blk_drewN ?_ _ | refine blk_drew ?_ | refine blk_alloc ?_ _)); refine blk_far ?_ NB179_213.out _; (with_reducible repeat (first | refine blk_drewN ?_ _ | refine blk_drew ?_ | refine blk_alloc ?_ _)); refine blk_far ?_ NB179_213.out _; (with_reducible repeat (first | refine blk_drewN ?_ _ | refine blk_drew ?_ | refine blk_alloc ?_ _)); refine blk_far ?_ NB179_213.out _; (with_reducible repeat (first | refine blk_drewN ?_ _ | refine blk_drew ?_ | refine blk_alloc ?_ _)); exact BK179.out) hb); have n2_ := Aside0.mk (blk_below (g := gb213) (o := .cells #[.int .i64 ((rd_T22 y209 x144_2).f0), .int .i64 ((rd_T22 y209 x144_2).f1), .int .i64 ((rd_T22 y209 x144_2).f2)] 22 (0, 0)) (by (with_reducible repeat (first | refine blk_drewN ?_ _ | refine blk_drew ?_ | refine blk_alloc ?_ _)); refine blk_put (cs := #[.int .i64 ((rd_T22 y209 x144_2).f0), .int .i64 ((rd_T22 y209 x144_2).f1), .int .i64 0]) ?_ 2 _ rfl; (with_reducible repeat (first | refine blk_drewN ?_ _ | refine blk_drew ?_ | refine blk_alloc ?_ _)); refine blk_put (cs := #[.int .i64 ((rd_T22 y209 x144_2).f0), .int .i64 0, .int .i64 0]) ?_ 1 _ rfl; (with_reducible repeat (first | refine blk_drewN ?_ _ | refine blk_drew ?_ | refine blk_alloc ?_ _)); refine blk_put (cs := #[.int .i64 0, .int .i64 0, .int .i64 0]) ?_ 0 _ rfl; (with_reducible repeat (first | refine blk_drewN ?_ _ | refine blk_drew ?_ | refine blk_alloc ?_ _)); exact BK213.out) hb); have n3_ := Aside0.mk (below_step (by repeat (first | (with_reducible first | exact HB.out | apply below_alloc | apply pw_below_drewN | apply below_drew1 | refine below_set ?_ GE179.out | refine below_set ?_ GE213.out) | exact HB.out)) hb); clear HO_142; clear BK179; clear BK213; clear HB; have HO_142 := n0_; have BK179 := n1_; have BK213 := n2_; have HB := n3_; clear n0_ n1_ n2_ n3_; (try clear hb); (try clear hb2); (try clear hk); (try clear hi); have hcz78_0 : w77.cell? ⟨gb213, 0, none⟩ = some (.int .i64 ((rd_T22 y209 x144_2).f0)) := (blk_cell BK213.out 0).trans rfl; have hcz78_1 : w77.cell? ⟨gb213, 1, none⟩ = some (.int .i64 ((rd_T22 y209 x144_2).f1)) := (blk_cell BK213.out 1).trans rfl; have hcz78_2 : w77.cell? ⟨gb213, 2, none⟩ = some (.int .i64 ((rd_T22 y209 x144_2).f2)) := (blk_cell BK213.out 2).trans rfl; have hfz78_0 := blk_frozen BK213.out 0; have hfz78_1 := blk_frozen BK213.out 1; have hfz78_2 := blk_frozen BK213.out 2) | ((with_reducible refine gate_callee (f := 26) rfl ?_); refine goesL_ (some 165) rfl rfl Tryd.func26 (by kernel_rfl) rfl #[.int .i64 ((rd_T22 y209 x144_2).f0), .int .i64 ((rd_T22 y209 x144_2).f1), .int .i64 ((rd_T22 y209 x144_2).f2)] rfl (by (try simp only [List.map_toArray, List.map_cons, List.map_nil]); first | done | rfl | (simp only [List.length_drop, List.length_take]; rfl)) ?_; (with_reducible refine (wageofficeref02_Day.calls k2 ((rd_T22 y209 x144_2).f0) ((rd_T22 y209 x144_2).f1) ((rd_T22 y209 x144_2).f2) t216 t217 _ A61.out).mono ?_); rintro e w' ⟨rfl, ⟨nd, rfl⟩⟩; refine ⟨_, rfl, ?_⟩))
                    go_roundg k2
                    case measure => have := HK1.out; have := HK2.out; omega
                    case rel => exact ⟨(false), (wrap64 (x144_2 + 1)), (by first | rfl | (simp; done) | (simp [*]; done)), (by first | rfl | (simp; done) | (simp [*]; done)), H', ⟨by have := HK1.out; have := HK2.out; omega⟩, ⟨by (with_reducible repeat (first | apply Kd.R_alloc | apply Kd.R_drewN | apply Kd.R_drew)); exact Kd.R_mono HO_142.out (fun _ hk => hk.1)⟩, ⟨by (with_reducible repeat (first | refine blk_drewN ?_ _ | refine blk_drew ?_ | refine blk_alloc ?_ _)); exact BK179.out⟩, ⟨by repeat (first | (with_reducible first | exact HB.out | apply below_alloc | apply pw_below_drewN | apply below_drew1 | refine below_set ?_ GE179.out | refine below_set ?_ GE213.out) | exact HB.out)⟩⟩
                · rw [if_neg c59] at H
                  exact absurd H (by simp)
              · rw [if_neg c58] at H
                exact absurd H (by simp)
            · rw [if_neg c57] at H
              have c57b0 : decide (x144_2 < (y209.length : Int)) = false := decide_eq_false c57
              clear c57
              obtain ⟨ji79, hji79⟩ : ∃ j_ : Int, (mn (a3.size : Int) 30) = j_ := ⟨_, rfl⟩
              replace H : (if 0 ≤ (ji79) then (if (ji79) ≤ (a3.size : Int) then ((calendar_Parse.f (a3.extract 0 ((ji79) : Int).toNat)).bind fun bt218 => ((wageofficeref02_Parse.f k2 (a3.extract 0 ((ji79) : Int).toNat)).bind fun bt220 => ((wageofficelaw02_pick.f a2 1200).bind fun t222 => (if x9_2 = true then (if bt218.1 = bt220.1 then (if bt218.2 = bt220.2 then ((calendar_First.f t222).bind fun t223 => ((wageofficeref02_First.f k2 t222).bind fun t224 => (if t223 = t224 then ((calendar_Length.f t222).bind fun t225 => ((wageofficeref02_Length.f k2 t222).bind fun t226 => (some (t225 == t226)))) else (some false)))) else (some false)) else (some false)) else (some false))))) else (none)) else (none)) = some r := by first | (rw [hji79] at H; exact H) | (simp only [hji79] at H ⊢; exact H)
              have hji79_ : (if 30 < (a3.size : Int) then 30 else (a3.size : Int)) = ji79 := hji79
              by_cases c80 : 0 ≤ (ji79)
              · rw [if_pos c80] at H
                have c80b0 := eq_true c80
                have c80b1 : decide (0 ≤ (ji79)) = true := decide_eq_true c80
                clear c80
                by_cases c81 : (ji79) ≤ (a3.size : Int)
                · rw [if_pos c81] at H
                  have c81b0 := eq_true c81
                  have c81b1 : decide ((ji79) ≤ (a3.size : Int)) = true := decide_eq_true c81
                  clear c81
                  obtain ⟨js82, hjs82⟩ : ∃ s_ : ByteArray, (a3.extract 0 ((ji79) : Int).toNat) = s_ := ⟨_, rfl⟩
                  replace H : ((calendar_Parse.f js82).bind fun bt218 => ((wageofficeref02_Parse.f k2 js82).bind fun bt220 => ((wageofficelaw02_pick.f a2 1200).bind fun t222 => (if x9_2 = true then (if bt218.1 = bt220.1 then (if bt218.2 = bt220.2 then ((calendar_First.f t222).bind fun t223 => ((wageofficeref02_First.f k2 t222).bind fun t224 => (if t223 = t224 then ((calendar_Length.f t222).bind fun t225 => ((wageofficeref02_Length.f k2 t222).bind fun t226 => (some (t225 == t226)))) else (some false)))) else (some false)) else (some false)) else (some false))))) = some r := by first | (rw [hjs82] at H; exact H) | (simp only [hjs82] at H ⊢; exact H)
                  replace H := Option.bind_eq_some_iff.mp H
                  obtain ⟨⟨t218, t219⟩, A830, H⟩ := H
                  replace H : ((wageofficeref02_Parse.f k2 js82).bind fun bt220 => ((wageofficelaw02_pick.f a2 1200).bind fun t222 => (if x9_2 = true then (if t218 = bt220.1 then (if t219 = bt220.2 then ((calendar_First.f t222).bind fun t223 => ((wageofficeref02_First.f k2 t222).bind fun t224 => (if t223 = t224 then ((calendar_Length.f t222).bind fun t225 => ((wageofficeref02_Length.f k2 t222).bind fun t226 => (some (t225 == t226)))) else (some false)))) else (some false)) else (some false)) else (some false)))) = some r := H
                  have A83 := Aside0.mk A830
                  clear A830
                  replace H := Option.bind_eq_some_iff.mp H
                  obtain ⟨⟨t220, t221⟩, A840, H⟩ := H
                  replace H : ((wageofficelaw02_pick.f a2 1200).bind fun t222 => (if x9_2 = true then (if t218 = t220 then (if t219 = t221 then ((calendar_First.f t222).bind fun t223 => ((wageofficeref02_First.f k2 t222).bind fun t224 => (if t223 = t224 then ((calendar_Length.f t222).bind fun t225 => ((wageofficeref02_Length.f k2 t222).bind fun t226 => (some (t225 == t226)))) else (some false)))) else (some false)) else (some false)) else (some false))) = some r := H
                  have A84 := Aside0.mk A840
                  clear A840
                  replace H := Option.bind_eq_some_iff.mp H
                  obtain ⟨t222, A850, H⟩ := H
                  replace H : (if x9_2 = true then (if t218 = t220 then (if t219 = t221 then ((calendar_First.f t222).bind fun t223 => ((wageofficeref02_First.f k2 t222).bind fun t224 => (if t223 = t224 then ((calendar_Length.f t222).bind fun t225 => ((wageofficeref02_Length.f k2 t222).bind fun t226 => (some (t225 == t226)))) else (some false)))) else (some false)) else (some false)) else (some false)) = some r := H
                  have A85 := Aside0.mk A850
                  clear A850
                  by_cases c86 : x9_2 = true
                  · subst c86
                    have H1 : (if t218 = t220 then (if t219 = t221 then ((calendar_First.f t222).bind fun t223 => ((wageofficeref02_First.f k2 t222).bind fun t224 => (if t223 = t224 then ((calendar_Length.f t222).bind fun t225 => ((wageofficeref02_Length.f k2 t222).bind fun t226 => (some (t225 == t226)))) else (some false)))) else (some false)) else (some false)) = some r := by rw [if_pos rfl] at H; exact H
                    clear H
                    have H := H1
                    clear H1
                    by_cases c87 : t218 = t220
                    · rw [if_pos c87] at H
                      have c87b0 : (t218 == t220) = true := beq_iff_eq.mpr c87
                      have c87b1 : (t218 != t220) = false := bne_eq_false_iff_eq.mpr c87
                      clear c87
                      by_cases c88 : t219 = t221
                      · rw [if_pos c88] at H
                        have c88b0 : (t219 == t221) = true := beq_iff_eq.mpr c88
                        have c88b1 : (t219 != t221) = false := bne_eq_false_iff_eq.mpr c88
                        clear c88
                        replace H := Option.bind_eq_some_iff.mp H
                        obtain ⟨t223, A890, H⟩ := H
                        replace H : ((wageofficeref02_First.f k2 t222).bind fun t224 => (if t223 = t224 then ((calendar_Length.f t222).bind fun t225 => ((wageofficeref02_Length.f k2 t222).bind fun t226 => (some (t225 == t226)))) else (some false))) = some r := H
                        have A89 := Aside0.mk A890
                        clear A890
                        replace H := Option.bind_eq_some_iff.mp H
                        obtain ⟨t224, A900, H⟩ := H
                        replace H : (if t223 = t224 then ((calendar_Length.f t222).bind fun t225 => ((wageofficeref02_Length.f k2 t222).bind fun t226 => (some (t225 == t226)))) else (some false)) = some r := H
                        have A90 := Aside0.mk A900
                        clear A900
                        by_cases c91 : t223 = t224
                        · rw [if_pos c91] at H
                          have c91b0 : (t223 == t224) = true := beq_iff_eq.mpr c91
                          have c91b1 : (t223 != t224) = false := bne_eq_false_iff_eq.mpr c91
                          clear c91
                          replace H := Option.bind_eq_some_iff.mp H
                          obtain ⟨t225, A920, H⟩ := H
                          replace H : ((wageofficeref02_Length.f k2 t222).bind fun t226 => (some (t225 == t226))) = some r := H
                          have A92 := Aside0.mk A920
                          clear A920
                          replace H := Option.bind_eq_some_iff.mp H
                          obtain ⟨t226, A930, H⟩ := H
                          replace H : (some (t225 == t226)) = some r := H
                          have A93 := Aside0.mk A930
                          clear A930
                          obtain rfl := Option.some.inj H
                          go_wp2_with (first | ((with_reducible refine gate_callee (f := 27) rfl ?_); refine goesL_ (some 187) rfl rfl Tryd.func27 (by kernel_rfl) rfl #[.string js82] rfl (by (try simp only [List.map_toArray, List.map_cons, List.map_nil]); first | done | rfl | (simp only [List.length_drop, List.length_take]; rfl)) ?_; (with_reducible refine (calendar_Parse.calls js82 t218 t219 _ A83.out (TabBefore.below hTBefore.out (by repeat (first | exact HB.out | exact Below.refl _ _ | apply below_alloc | apply pw_below_drewN | apply below_drew1 | apply below_drew | refine below_set ?_ GE179.out | refine below_set ?_ GE213.out)))).mono ?_); rintro e w94 ⟨rfl, hb⟩; refine ⟨_, rfl, ?_⟩; have n0_ := Aside0.mk (Kd.R_below (by (with_reducible repeat (first | apply Kd.R_alloc | apply Kd.R_drewN | apply Kd.R_drew)); exact HO_142.out) hb); have n1_ := Aside0.mk (blk_below (g := gb179) (o := .cells #[.int .i64 a1_0, .int .i64 a1_1, .int .i64 a1_2] 22 (0, 0)) (by (with_reducible repeat (first | refine blk_drewN ?_ _ | refine blk_drew ?_ | refine blk_alloc ?_ _)); exact BK179.out) hb); have n2_ := Aside0.mk (below_step (by repeat (first | (with_reducible first | exact HB.out | apply below_alloc | apply pw_below_drewN | apply below_drew1 | refine below_set ?_ GE179.out) | exact HB.out)) hb); clear HO_142; clear BK179; clear HB; have HO_142 := n0_; have BK179 := n1_; have HB := n2_; clear n0_ n1_ n2_; (try clear hb); (try clear hb2); (try clear hk); (try clear hi)) | ((with_reducible refine gate_callee (f := 28) rfl ?_); refine goesL_ (some 192) rfl rfl Tryd.func28 (by kernel_rfl) rfl #[.string js82] rfl (by (try simp only [List.map_toArray, List.map_cons, List.map_nil]); first | done | rfl | (simp only [List.length_drop, List.length_take]; rfl)) ?_; (with_reducible refine (wageofficeref02_Parse.calls k2 js82 t220 t221 _ A84.out).mono ?_); rintro e w' ⟨rfl, ⟨nd, rfl⟩⟩; refine ⟨_, rfl, ?_⟩) | ((with_reducible refine gate_callee (f := 10) rfl ?_); refine goesL_ (some 196) rfl rfl Tryd.func10 (by kernel_rfl) rfl #[.int .i64 a2, .int .i64 1200] rfl (by (try simp only [List.map_toArray, List.map_cons, List.map_nil]); first | done | rfl | (simp only [List.length_drop, List.length_take]; rfl)) ?_; (with_reducible refine (wageofficelaw02_pick.calls a2 1200 t222 _ A85.out).mono ?_); rintro e w' ⟨rfl, ⟨nd, rfl⟩⟩; refine ⟨_, rfl, ?_⟩) | (go_at_call 21; (with_reducible refine (calendar_First.calls t222 t223 _ A89.out (TabBefore.below hTBefore.out (by repeat (first | exact HB.out | exact Below.refl _ _ | apply below_alloc | apply pw_below_drewN | apply below_drew1 | apply below_drew | refine below_set ?_ GE179.out | refine below_set ?_ GE213.out)))).mono ?_); rintro e w95 ⟨rfl, hb⟩; have n0_ := Aside0.mk (Kd.R_below (by (with_reducible repeat (first | apply Kd.R_alloc | apply Kd.R_drewN | apply Kd.R_drew)); exact HO_142.out) hb); have n1_ := Aside0.mk (blk_below (g := gb179) (o := .cells #[.int .i64 a1_0, .int .i64 a1_1, .int .i64 a1_2] 22 (0, 0)) (by (with_reducible repeat (first | refine blk_drewN ?_ _ | refine blk_drew ?_ | refine blk_alloc ?_ _)); exact BK179.out) hb); have n2_ := Aside0.mk (below_step (by repeat (first | (with_reducible first | exact HB.out | apply below_alloc | apply pw_below_drewN | apply below_drew1 | refine below_set ?_ GE179.out) | exact HB.out)) hb); clear HO_142; clear BK179; clear HB; have HO_142 := n0_; have BK179 := n1_; have HB := n2_; clear n0_ n1_ n2_; (try clear hb); (try clear hb2); (try clear hk); (try clear hi)) | (go_at_call 22; (with_reducible refine (wageofficeref02_First.calls k2 t222 t224 _ A90.out).mono ?_); rintro e w' ⟨rfl, ⟨nd, rfl⟩⟩) | (go_at_call 23; (with_reducible refine (calendar_Length.calls t222 t225 _ A92.out (TabBefore.below hTBefore.out (by repeat (first | exact HB.out | exact Below.refl _ _ | apply below_alloc | apply pw_below_drewN | apply below_drew1 | apply below_drew | refine below_set ?_ GE179.out | refine below_set ?_ GE213.out)))).mono ?_); rintro e w96 ⟨rfl, hb⟩; have n0_ := Aside0.mk (Kd.R_below (by (with_reducible repeat (first | apply Kd.R_alloc | apply Kd.R_drewN | apply Kd.R_drew)); exact HO_142.out) hb); have n1_ := Aside0.mk (blk_below (g := gb179) (o := .cells #[.int .i64 a1_0, .int .i64 a1_1, .int .i64 a1_2] 22 (0, 0)) (by (with_reducible repeat (first | refine blk_drewN ?_ _ | refine blk_drew ?_ | refine blk_alloc ?_ _)); exact BK179.out) hb); have n2_ := Aside0.mk (below_step (by repeat (first | (with_reducible first | exact HB.out | apply below_alloc | apply pw_below_drewN | apply below_drew1 | refine below_set ?_ GE179.out) | exact HB.out)) hb); clear HO_142; clear BK179; clear HB; have HO_142 := n0_; have BK179 := n1_; have HB := n2_; clear n0_ n1_ n2_; (try clear hb); (try clear hb2); (try clear hk); (try clear hi)) | (go_at_call 24; (with_reducible refine (wageofficeref02_Length.calls k2 t222 t226 _ A93.out).mono ?_); rintro e w' ⟨rfl, ⟨nd, rfl⟩⟩))
                          go_ret
                          exact ⟨by first | rfl | (simp [errW_none, errW_some] <;> rfl) | (simp only [← hji79, ← hjs82]; first | rfl | (simp [errW_none, errW_some] <;> rfl)) | (simp [*, errW_none, errW_some] <;> rfl), by repeat (first | (with_reducible first | exact HB.out | apply below_alloc | apply pw_below_drewN | apply below_drew1 | refine below_set ?_ GE179.out) | exact HB.out)⟩
                        · rw [if_neg c91] at H
                          have c91b0 : (t223 == t224) = false := beq_eq_false_iff_ne.mpr c91
                          have c91b1 : (t223 != t224) = true := bne_iff_ne.mpr c91
                          obtain rfl := Option.some.inj H
                          go_wp2_with (first | ((with_reducible refine gate_callee (f := 27) rfl ?_); refine goesL_ (some 187) rfl rfl Tryd.func27 (by kernel_rfl) rfl #[.string js82] rfl (by (try simp only [List.map_toArray, List.map_cons, List.map_nil]); first | done | rfl | (simp only [List.length_drop, List.length_take]; rfl)) ?_; (with_reducible refine (calendar_Parse.calls js82 t218 t219 _ A83.out (TabBefore.below hTBefore.out (by repeat (first | exact HB.out | exact Below.refl _ _ | apply below_alloc | apply pw_below_drewN | apply below_drew1 | apply below_drew | refine below_set ?_ GE179.out | refine below_set ?_ GE213.out)))).mono ?_); rintro e w97 ⟨rfl, hb⟩; refine ⟨_, rfl, ?_⟩; have n0_ := Aside0.mk (Kd.R_below (by (with_reducible repeat (first | apply Kd.R_alloc | apply Kd.R_drewN | apply Kd.R_drew)); exact HO_142.out) hb); have n1_ := Aside0.mk (blk_below (g := gb179) (o := .cells #[.int .i64 a1_0, .int .i64 a1_1, .int .i64 a1_2] 22 (0, 0)) (by (with_reducible repeat (first | refine blk_drewN ?_ _ | refine blk_drew ?_ | refine blk_alloc ?_ _)); exact BK179.out) hb); have n2_ := Aside0.mk (below_step (by repeat (first | (with_reducible first | exact HB.out | apply below_alloc | apply pw_below_drewN | apply below_drew1 | refine below_set ?_ GE179.out) | exact HB.out)) hb); clear HO_142; clear BK179; clear HB; have HO_142 := n0_; have BK179 := n1_; have HB := n2_; clear n0_ n1_ n2_; (try clear hb); (try clear hb2); (try clear hk); (try clear hi)) | ((with_reducible refine gate_callee (f := 28) rfl ?_); refine goesL_ (some 192) rfl rfl Tryd.func28 (by kernel_rfl) rfl #[.string js82] rfl (by (try simp only [List.map_toArray, List.map_cons, List.map_nil]); first | done | rfl | (simp only [List.length_drop, List.length_take]; rfl)) ?_; (with_reducible refine (wageofficeref02_Parse.calls k2 js82 t220 t221 _ A84.out).mono ?_); rintro e w' ⟨rfl, ⟨nd, rfl⟩⟩; refine ⟨_, rfl, ?_⟩) | ((with_reducible refine gate_callee (f := 10) rfl ?_); refine goesL_ (some 196) rfl rfl Tryd.func10 (by kernel_rfl) rfl #[.int .i64 a2, .int .i64 1200] rfl (by (try simp only [List.map_toArray, List.map_cons, List.map_nil]); first | done | rfl | (simp only [List.length_drop, List.length_take]; rfl)) ?_; (with_reducible refine (wageofficelaw02_pick.calls a2 1200 t222 _ A85.out).mono ?_); rintro e w' ⟨rfl, ⟨nd, rfl⟩⟩; refine ⟨_, rfl, ?_⟩) | (go_at_call 21; (with_reducible refine (calendar_First.calls t222 t223 _ A89.out (TabBefore.below hTBefore.out (by repeat (first | exact HB.out | exact Below.refl _ _ | apply below_alloc | apply pw_below_drewN | apply below_drew1 | apply below_drew | refine below_set ?_ GE179.out | refine below_set ?_ GE213.out)))).mono ?_); rintro e w98 ⟨rfl, hb⟩; have n0_ := Aside0.mk (Kd.R_below (by (with_reducible repeat (first | apply Kd.R_alloc | apply Kd.R_drewN | apply Kd.R_drew)); exact HO_142.out) hb); have n1_ := Aside0.mk (blk_below (g := gb179) (o := .cells #[.int .i64 a1_0, .int .i64 a1_1, .int .i64 a1_2] 22 (0, 0)) (by (with_reducible repeat (first | refine blk_drewN ?_ _ | refine blk_drew ?_ | refine blk_alloc ?_ _)); exact BK179.out) hb); have n2_ := Aside0.mk (below_step (by repeat (first | (with_reducible first | exact HB.out | apply below_alloc | apply pw_below_drewN | apply below_drew1 | refine below_set ?_ GE179.out) | exact HB.out)) hb); clear HO_142; clear BK179; clear HB; have HO_142 := n0_; have BK179 := n1_; have HB := n2_; clear n0_ n1_ n2_; (try clear hb); (try clear hb2); (try clear hk); (try clear hi)) | (go_at_call 22; (with_reducible refine (wageofficeref02_First.calls k2 t222 t224 _ A90.out).mono ?_); rintro e w' ⟨rfl, ⟨nd, rfl⟩⟩))
                          go_ret
                          exact ⟨by first | rfl | (simp [errW_none, errW_some] <;> rfl) | (simp only [← hji79, ← hjs82]; first | rfl | (simp [errW_none, errW_some] <;> rfl)) | (simp [*, errW_none, errW_some] <;> rfl), by repeat (first | (with_reducible first | exact HB.out | apply below_alloc | apply pw_below_drewN | apply below_drew1 | refine below_set ?_ GE179.out) | exact HB.out)⟩
                      · rw [if_neg c88] at H
                        have c88b0 : (t219 == t221) = false := beq_eq_false_iff_ne.mpr c88
                        have c88b1 : (t219 != t221) = true := bne_iff_ne.mpr c88
                        obtain rfl := Option.some.inj H
                        go_wp2_with (first | ((with_reducible refine gate_callee (f := 27) rfl ?_); refine goesL_ (some 187) rfl rfl Tryd.func27 (by kernel_rfl) rfl #[.string js82] rfl (by (try simp only [List.map_toArray, List.map_cons, List.map_nil]); first | done | rfl | (simp only [List.length_drop, List.length_take]; rfl)) ?_; (with_reducible refine (calendar_Parse.calls js82 t218 t219 _ A83.out (TabBefore.below hTBefore.out (by repeat (first | exact HB.out | exact Below.refl _ _ | apply below_alloc | apply pw_below_drewN | apply below_drew1 | apply below_drew | refine below_set ?_ GE179.out | refine below_set ?_ GE213.out)))).mono ?_); rintro e w99 ⟨rfl, hb⟩; refine ⟨_, rfl, ?_⟩; have n0_ := Aside0.mk (Kd.R_below (by (with_reducible repeat (first | apply Kd.R_alloc | apply Kd.R_drewN | apply Kd.R_drew)); exact HO_142.out) hb); have n1_ := Aside0.mk (blk_below (g := gb179) (o := .cells #[.int .i64 a1_0, .int .i64 a1_1, .int .i64 a1_2] 22 (0, 0)) (by (with_reducible repeat (first | refine blk_drewN ?_ _ | refine blk_drew ?_ | refine blk_alloc ?_ _)); exact BK179.out) hb); have n2_ := Aside0.mk (below_step (by repeat (first | (with_reducible first | exact HB.out | apply below_alloc | apply pw_below_drewN | apply below_drew1 | refine below_set ?_ GE179.out) | exact HB.out)) hb); clear HO_142; clear BK179; clear HB; have HO_142 := n0_; have BK179 := n1_; have HB := n2_; clear n0_ n1_ n2_; (try clear hb); (try clear hb2); (try clear hk); (try clear hi)) | ((with_reducible refine gate_callee (f := 28) rfl ?_); refine goesL_ (some 192) rfl rfl Tryd.func28 (by kernel_rfl) rfl #[.string js82] rfl (by (try simp only [List.map_toArray, List.map_cons, List.map_nil]); first | done | rfl | (simp only [List.length_drop, List.length_take]; rfl)) ?_; (with_reducible refine (wageofficeref02_Parse.calls k2 js82 t220 t221 _ A84.out).mono ?_); rintro e w' ⟨rfl, ⟨nd, rfl⟩⟩; refine ⟨_, rfl, ?_⟩) | ((with_reducible refine gate_callee (f := 10) rfl ?_); refine goesL_ (some 196) rfl rfl Tryd.func10 (by kernel_rfl) rfl #[.int .i64 a2, .int .i64 1200] rfl (by (try simp only [List.map_toArray, List.map_cons, List.map_nil]); first | done | rfl | (simp only [List.length_drop, List.length_take]; rfl)) ?_; (with_reducible refine (wageofficelaw02_pick.calls a2 1200 t222 _ A85.out).mono ?_); rintro e w' ⟨rfl, ⟨nd, rfl⟩⟩; refine ⟨_, rfl, ?_⟩))
                        go_ret
                        exact ⟨by first | rfl | (simp [errW_none, errW_some] <;> rfl) | (simp only [← hji79, ← hjs82]; first | rfl | (simp [errW_none, errW_some] <;> rfl)) | (simp [*, errW_none, errW_some] <;> rfl), by repeat (first | (with_reducible first | exact HB.out | apply below_alloc | apply pw_below_drewN | apply below_drew1 | refine below_set ?_ GE179.out) | exact HB.out)⟩
                    · rw [if_neg c87] at H
                      have c87b0 : (t218 == t220) = false := beq_eq_false_iff_ne.mpr c87
                      have c87b1 : (t218 != t220) = true := bne_iff_ne.mpr c87
                      obtain rfl := Option.some.inj H
                      go_wp2_with (first | ((with_reducible refine gate_callee (f := 27) rfl ?_); refine goesL_ (some 187) rfl rfl Tryd.func27 (by kernel_rfl) rfl #[.string js82] rfl (by (try simp only [List.map_toArray, List.map_cons, List.map_nil]); first | done | rfl | (simp only [List.length_drop, List.length_take]; rfl)) ?_; (with_reducible refine (calendar_Parse.calls js82 t218 t219 _ A83.out (TabBefore.below hTBefore.out (by repeat (first | exact HB.out | exact Below.refl _ _ | apply below_alloc | apply pw_below_drewN | apply below_drew1 | apply below_drew | refine below_set ?_ GE179.out | refine below_set ?_ GE213.out)))).mono ?_); rintro e w100 ⟨rfl, hb⟩; refine ⟨_, rfl, ?_⟩; have n0_ := Aside0.mk (Kd.R_below (by (with_reducible repeat (first | apply Kd.R_alloc | apply Kd.R_drewN | apply Kd.R_drew)); exact HO_142.out) hb); have n1_ := Aside0.mk (blk_below (g := gb179) (o := .cells #[.int .i64 a1_0, .int .i64 a1_1, .int .i64 a1_2] 22 (0, 0)) (by (with_reducible repeat (first | refine blk_drewN ?_ _ | refine blk_drew ?_ | refine blk_alloc ?_ _)); exact BK179.out) hb); have n2_ := Aside0.mk (below_step (by repeat (first | (with_reducible first | exact HB.out | apply below_alloc | apply pw_below_drewN | apply below_drew1 | refine below_set ?_ GE179.out) | exact HB.out)) hb); clear HO_142; clear BK179; clear HB; have HO_142 := n0_; have BK179 := n1_; have HB := n2_; clear n0_ n1_ n2_; (try clear hb); (try clear hb2); (try clear hk); (try clear hi)) | ((with_reducible refine gate_callee (f := 28) rfl ?_); refine goesL_ (some 192) rfl rfl Tryd.func28 (by kernel_rfl) rfl #[.string js82] rfl (by (try simp only [List.map_toArray, List.map_cons, List.map_nil]); first | done | rfl | (simp only [List.length_drop, List.length_take]; rfl)) ?_; (with_reducible refine (wageofficeref02_Parse.calls k2 js82 t220 t221 _ A84.out).mono ?_); rintro e w' ⟨rfl, ⟨nd, rfl⟩⟩; refine ⟨_, rfl, ?_⟩) | ((with_reducible refine gate_callee (f := 10) rfl ?_); refine goesL_ (some 196) rfl rfl Tryd.func10 (by kernel_rfl) rfl #[.int .i64 a2, .int .i64 1200] rfl (by (try simp only [List.map_toArray, List.map_cons, List.map_nil]); first | done | rfl | (simp only [List.length_drop, List.length_take]; rfl)) ?_; (with_reducible refine (wageofficelaw02_pick.calls a2 1200 t222 _ A85.out).mono ?_); rintro e w' ⟨rfl, ⟨nd, rfl⟩⟩; refine ⟨_, rfl, ?_⟩))
                      go_ret
                      exact ⟨by first | rfl | (simp [errW_none, errW_some] <;> rfl) | (simp only [← hji79, ← hjs82]; first | rfl | (simp [errW_none, errW_some] <;> rfl)) | (simp [*, errW_none, errW_some] <;> rfl), by repeat (first | (with_reducible first | exact HB.out | apply below_alloc | apply pw_below_drewN | apply below_drew1 | refine below_set ?_ GE179.out) | exact HB.out)⟩
                  · replace c86 := Bool.eq_false_iff.mpr c86
                    subst c86
                    have H1 : (some false) = some r := by rw [if_neg (show ¬ (false = true) by decide)] at H; exact H
                    clear H
                    have H := H1
                    clear H1
                    obtain rfl := Option.some.inj H
                    go_wp2_with (first | ((with_reducible refine gate_callee (f := 27) rfl ?_); refine goesL_ (some 187) rfl rfl Tryd.func27 (by kernel_rfl) rfl #[.string js82] rfl (by (try simp only [List.map_toArray, List.map_cons, List.map_nil]); first | done | rfl | (simp only [List.length_drop, List.length_take]; rfl)) ?_; (with_reducible refine (calendar_Parse.calls js82 t218 t219 _ A83.out (TabBefore.below hTBefore.out (by repeat (first | exact HB.out | exact Below.refl _ _ | apply below_alloc | apply pw_below_drewN | apply below_drew1 | apply below_drew | refine below_set ?_ GE179.out | refine below_set ?_ GE213.out)))).mono ?_); rintro e w101 ⟨rfl, hb⟩; refine ⟨_, rfl, ?_⟩; have n0_ := Aside0.mk (Kd.R_below (by (with_reducible repeat (first | apply Kd.R_alloc | apply Kd.R_drewN | apply Kd.R_drew)); exact HO_142.out) hb); have n1_ := Aside0.mk (blk_below (g := gb179) (o := .cells #[.int .i64 a1_0, .int .i64 a1_1, .int .i64 a1_2] 22 (0, 0)) (by (with_reducible repeat (first | refine blk_drewN ?_ _ | refine blk_drew ?_ | refine blk_alloc ?_ _)); exact BK179.out) hb); have n2_ := Aside0.mk (below_step (by repeat (first | (with_reducible first | exact HB.out | apply below_alloc | apply pw_below_drewN | apply below_drew1 | refine below_set ?_ GE179.out) | exact HB.out)) hb); clear HO_142; clear BK179; clear HB; have HO_142 := n0_; have BK179 := n1_; have HB := n2_; clear n0_ n1_ n2_; (try clear hb); (try clear hb2); (try clear hk); (try clear hi)) | ((with_reducible refine gate_callee (f := 28) rfl ?_); refine goesL_ (some 192) rfl rfl Tryd.func28 (by kernel_rfl) rfl #[.string js82] rfl (by (try simp only [List.map_toArray, List.map_cons, List.map_nil]); first | done | rfl | (simp only [List.length_drop, List.length_take]; rfl)) ?_; (with_reducible refine (wageofficeref02_Parse.calls k2 js82 t220 t221 _ A84.out).mono ?_); rintro e w' ⟨rfl, ⟨nd, rfl⟩⟩; refine ⟨_, rfl, ?_⟩) | ((with_reducible refine gate_callee (f := 10) rfl ?_); refine goesL_ (some 196) rfl rfl Tryd.func10 (by kernel_rfl) rfl #[.int .i64 a2, .int .i64 1200] rfl (by (try simp only [List.map_toArray, List.map_cons, List.map_nil]); first | done | rfl | (simp only [List.length_drop, List.length_take]; rfl)) ?_; (with_reducible refine (wageofficelaw02_pick.calls a2 1200 t222 _ A85.out).mono ?_); rintro e w' ⟨rfl, ⟨nd, rfl⟩⟩; refine ⟨_, rfl, ?_⟩))
                    go_ret
                    exact ⟨by first | rfl | (simp [errW_none, errW_some] <;> rfl) | (simp only [← hji79, ← hjs82]; first | rfl | (simp [errW_none, errW_some] <;> rfl)) | (simp [*, errW_none, errW_some] <;> rfl), by repeat (first | (with_reducible first | exact HB.out | apply below_alloc | apply pw_below_drewN | apply below_drew1 | refine below_set ?_ GE179.out) | exact HB.out)⟩
                · rw [if_neg c81] at H
                  exact absurd H (by simp)
              · rw [if_neg c80] at H
                exact absurd H (by simp)

end Go.Proofs.YthakhcnpiobpgaaDoor.PAll
