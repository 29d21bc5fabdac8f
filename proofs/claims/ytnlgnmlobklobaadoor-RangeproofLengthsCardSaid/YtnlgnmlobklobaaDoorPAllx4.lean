-- Written by myprint.py over the kit's print.py (a printed text of this session's own make).
import Derived.Test.YtnlgnmlobklobaaDoorPAllx0
-- HALF the printed indentation
namespace Go.Proofs.YtnlgnmlobklobaaDoor.PAll
open Go.Proofs.YtnlgnmlobklobaaDoor.Stub Go.Proofs.YtnlgnmlobklobaaDoor.Com Go.Proofs.YtnlgnmlobklobaaDoor.Hash
open Go.RowKit Go.Proofs.YtnlgnmlobklobaaDoorW.PrintWords Go.Proofs.YtnlgnmlobklobaaDoorW.PrintLast Go.Proofs.YtnlgnmlobklobaaDoorW.PrintMore
attribute [local go_sem] max2_int min2_int max_two min_two max_three min_three max_four min_four   -- for this text's walks alone
set_option linter.unusedVariables false
set_option linter.unusedSimpArgs false

/-! ### wageofficelaw27_number: function 22 -/
def wageofficelaw27_number.l0 : Nat → ByteArray → Int → Option (ByteArray)
 | 0, _, _ => none
 | k + 1, x3, x4 => if x4 > 0 then ((some (([(wrap64 (48 + (Int.tmod x4 10))) % 256] : List Int) : List Int)).bind fun y156 => (if (strOfNums y156).size + x3.size ≤ 9223372036854775807 then (wageofficelaw27_number.l0 k ((strOfNums y156) ++ x3) (wrap64 (Int.tdiv x4 10))) else (none))) else (if x3.toList = ([] : List UInt8) then ((some (([(wrap64 (48 + (Int.tmod x4 10))) % 256] : List Int) : List Int)).bind fun y159 => (if (strOfNums y159).size + x3.size ≤ 9223372036854775807 then (wageofficelaw27_number.l0 k ((strOfNums y159) ++ x3) (wrap64 (Int.tdiv x4 10))) else (none))) else (some x3))
def wageofficelaw27_number.f (k : Nat) (a0 : Int) : Option (ByteArray) := wageofficelaw27_number.l0 k (⟨#[]⟩ : ByteArray) a0
theorem wageofficelaw27_number.mono_l : ∀ k, (∀ y0 y1, LeO (wageofficelaw27_number.l0 k y0 y1) (wageofficelaw27_number.l0 (k + 1) y0 y1))
 | 0 => fun _ _ r h => by simp [wageofficelaw27_number.l0] at h
 | k + 1 => by
  have ih0 := wageofficelaw27_number.mono_l k
  ·intro y0 y1
   unfold wageofficelaw27_number.l0
   repeat' first
   | (with_reducible exact ih0 _ _)
   | (with_reducible exact LeO.refl _)
   | (with_reducible exact LeO.none _)
   | (with_reducible refine LeO.ite ?_ ?_)
   | (with_reducible refine LeO.bind ?_ (fun _ => ?_))
   | exact ih0 _ _
   | exact LeO.none _
   | refine LeO.ite ?_ ?_
   | refine LeO.bind ?_ (fun _ => ?_)
theorem wageofficelaw27_number.mono : ∀ a0 k, LeO (wageofficelaw27_number.f k a0) (wageofficelaw27_number.f (k + 1) a0) := by
 intro a0 k
 have ih0 := wageofficelaw27_number.mono_l k
 unfold wageofficelaw27_number.f
 repeat' first
   | (with_reducible exact ih0 _ _)
   | (with_reducible exact LeO.refl _)
   | (with_reducible exact LeO.none _)
   | (with_reducible refine LeO.ite ?_ ?_)
   | (with_reducible refine LeO.bind ?_ (fun _ => ?_))
   | exact ih0 _ _
   | exact LeO.none _
   | refine LeO.ite ?_ ?_
   | refine LeO.bind ?_ (fun _ => ?_)
set_option maxHeartbeats 8000000 in
set_option maxRecDepth 100000 in
theorem wageofficelaw27_number.calls (k : Nat) (a0 : Int) (r : ByteArray) (w : World) (h : wageofficelaw27_number.f k a0 = some r) :
  Calls Tryd.prog 22 #[.int .i64 a0] w fun e w' => e = .returned (.string r) ∧ Below w.heap.size w w' := by
 have HB := Aside0.mk (Below.refl w.heap.size w)
 have H : (wageofficelaw27_number.l0 k (⟨#[]⟩ : ByteArray) a0) = some r := h
 clear h
 have H' := Aside0.mk H
 clear H
 go_enter Tryd.func22, Tryd.ntmps22
 go_wp2
 go_loopg [3, 4] k (fun kq v3 v4 w' => ∃ (x3_1 : ByteArray) (x4_1 : Int), v3 = .string x3_1 ∧ v4 = .int .i64 x4_1 ∧ Aside0 (wageofficelaw27_number.l0 kq x3_1 x4_1 = some r) ∧ Aside0 (kq ≤ k) ∧ Aside0 (Below w.heap.size w w'))
 case atStart => exact ⟨((⟨#[]⟩ : ByteArray)), (a0), (by first | rfl | (simp; done) | (simp [*]; done)), (by first | rfl | (simp; done) | (simp [*]; done)), H', ⟨Nat.le_refl _⟩, ⟨by repeat (first | (with_reducible first | exact HB.out | apply below_alloc | apply pw_below_drewN | apply below_drew1) | exact HB.out)⟩⟩
 case round =>
  clear H'
  obtain ⟨x3_1, x4_1, rfl, rfl, HA, HK1, HB⟩ := hrel
  cases gk with
  | zero => exact absurd HA.out (by simp [wageofficelaw27_number.l0])
  | succ k1 =>
   have H := HA.out
   clear HA
   simp only [wageofficelaw27_number.l0] at H
   by_cases c2 : x4_1 > 0
   ·rw [if_pos c2] at H
    have c2b0 : decide (0 < x4_1) = true := decide_eq_true c2
    clear c2
    obtain ⟨y156, hy156⟩ : ∃ y_ : List Int, y_ = (([(wrap64 (48 + (Int.tmod x4_1 10))) % 256] : List Int)) := ⟨_, rfl⟩
    replace H : (if (strOfNums y156).size + x3_1.size ≤ 9223372036854775807 then (wageofficelaw27_number.l0 k1 ((strOfNums y156) ++ x3_1) (wrap64 (Int.tdiv x4_1 10))) else (none)) = some r := by first | (rw [hy156]; with_reducible exact H) | (have H2_ := (Option.bind_some _ _).symm.trans H; rw [hy156]; with_reducible exact H2_) | (have H2_ := (Option.bind_some _ _).symm.trans H; with_reducible exact H2_) | with_reducible exact H | (rw [hy156]; exact H) | exact H
    have Ny156 := Aside0.mk hy156
    clear hy156
    by_cases c3 : (strOfNums y156).size + x3_1.size ≤ 9223372036854775807
    ·rw [if_pos c3] at H
     have c3b0 := eq_true c3
     have c3b1 : decide ((strOfNums y156).size + x3_1.size ≤ 9223372036854775807) = true := decide_eq_true c3
     try have c3b2 : (9223372036854775807 < (strOfNums y156).size + x3_1.size) = False := eq_false (Nat.not_lt.2 c3)
     have H' := Aside0.mk H
     clear H
     go_wp2_with (first | ((with_reducible refine gate_dst (N := 18) rfl ?_); refine Kd.R_lit (Kd.int .u8) _ 5 ?hg (N := 18) ?hd (xs := ([(wrap64 (48 + (Int.tmod x4_1 10))) % 256] : List Int)) (inner := [.int .u8 ((wrap64 (48 + (Int.tmod x4_1 10))) % 256)]) (ok := fun _ => True) (okp := fun _ => True) ?hr ?hp (fun _ hk => hk) trivial (Below.refl _ _) (Nat.le_refl _) (by simp) ?_; (case hd => rfl); (case hg => rfl); (case hr => first | (go_simp; done) | (go_simp; rfl)); (case hp => exact (Reps.one (show Kd.M (Kd.int .u8) _ _ _ ((wrap64 (48 + (Int.tmod x4_1 10))) % 256) [.int .u8 ((wrap64 (48 + (Int.tmod x4_1 10))) % 256)] from rfl) (Reps.none _ _))); intro v157 w4 ho5 hb hg_ hnew_; clear hg_ hnew_; (first | rw [← Ny156.out] at ho5 | (simp only [Int.reduceToNat] at ho5; rw [← Ny156.out] at ho5)); have n0_ := Aside0.mk (Kd.R_lower ho5 (below_size (by repeat (first | (with_reducible first | exact HB.out | apply below_alloc | apply pw_below_drewN | apply below_drew1) | exact HB.out)))); have n1_ := Aside0.mk (below_step (by repeat (first | (with_reducible first | exact HB.out | apply below_alloc | apply pw_below_drewN | apply below_drew1) | exact HB.out)) hb); clear HB; have HO158 := n0_; have HB := n1_; clear n0_ n1_; clear hb ho5; have hcv6 := own_string (P := Tryd.prog) Tryd.underlying67 Tryd.underlying5 Tryd.underlying9 (Kd.own_of_R HO158.out)))
     go_roundg k1
     case measure => have := HK1.out; omega
     case rel => exact ⟨((strOfNums y156) ++ x3_1), (wrap64 (Int.tdiv x4_1 10)), (by first | rfl | (simp; done) | (simp [*]; done)), (by first | rfl | (simp; done) | (simp [*]; done)), H', ⟨by have := HK1.out; omega⟩, ⟨by repeat (first | (with_reducible first | exact HB.out | apply below_alloc | apply pw_below_drewN | apply below_drew1) | exact HB.out)⟩⟩
    ·rw [if_neg c3] at H
     exact absurd H (by simp)
   ·rw [if_neg c2] at H
    have c2b0 : decide (0 < x4_1) = false := decide_eq_false c2
    clear c2
    by_cases c7 : x3_1.toList = ([] : List UInt8)
    ·rw [if_pos c7] at H
     have c7b0 : (x3_1.toList == ([] : List UInt8)) = true := beq_iff_eq.mpr c7
     have c7b1 : (x3_1.toList != ([] : List UInt8)) = false := bne_eq_false_iff_eq.mpr c7
     clear c7
     obtain ⟨y159, hy159⟩ : ∃ y_ : List Int, y_ = (([(wrap64 (48 + (Int.tmod x4_1 10))) % 256] : List Int)) := ⟨_, rfl⟩
     replace H : (if (strOfNums y159).size + x3_1.size ≤ 9223372036854775807 then (wageofficelaw27_number.l0 k1 ((strOfNums y159) ++ x3_1) (wrap64 (Int.tdiv x4_1 10))) else (none)) = some r := by first | (rw [hy159]; with_reducible exact H) | (have H2_ := (Option.bind_some _ _).symm.trans H; rw [hy159]; with_reducible exact H2_) | (have H2_ := (Option.bind_some _ _).symm.trans H; with_reducible exact H2_) | with_reducible exact H | (rw [hy159]; exact H) | exact H
     have Ny159 := Aside0.mk hy159
     clear hy159
     by_cases c8 : (strOfNums y159).size + x3_1.size ≤ 9223372036854775807
     ·rw [if_pos c8] at H
      have c8b0 := eq_true c8
      have c8b1 : decide ((strOfNums y159).size + x3_1.size ≤ 9223372036854775807) = true := decide_eq_true c8
      try have c8b2 : (9223372036854775807 < (strOfNums y159).size + x3_1.size) = False := eq_false (Nat.not_lt.2 c8)
      have H' := Aside0.mk H
      clear H
      go_wp2_with (first | ((with_reducible refine gate_dst (N := 18) rfl ?_); refine Kd.R_lit (Kd.int .u8) _ 5 ?hg (N := 18) ?hd (xs := ([(wrap64 (48 + (Int.tmod x4_1 10))) % 256] : List Int)) (inner := [.int .u8 ((wrap64 (48 + (Int.tmod x4_1 10))) % 256)]) (ok := fun _ => True) (okp := fun _ => True) ?hr ?hp (fun _ hk => hk) trivial (Below.refl _ _) (Nat.le_refl _) (by simp) ?_; (case hd => rfl); (case hg => rfl); (case hr => first | (go_simp; done) | (go_simp; rfl)); (case hp => exact (Reps.one (show Kd.M (Kd.int .u8) _ _ _ ((wrap64 (48 + (Int.tmod x4_1 10))) % 256) [.int .u8 ((wrap64 (48 + (Int.tmod x4_1 10))) % 256)] from rfl) (Reps.none _ _))); intro v160 w9 ho10 hb hg_ hnew_; clear hg_ hnew_; (first | rw [← Ny159.out] at ho10 | (simp only [Int.reduceToNat] at ho10; rw [← Ny159.out] at ho10)); have n0_ := Aside0.mk (Kd.R_lower ho10 (below_size (by repeat (first | (with_reducible first | exact HB.out | apply below_alloc | apply pw_below_drewN | apply below_drew1) | exact HB.out)))); have n1_ := Aside0.mk (below_step (by repeat (first | (with_reducible first | exact HB.out | apply below_alloc | apply pw_below_drewN | apply below_drew1) | exact HB.out)) hb); clear HB; have HO161 := n0_; have HB := n1_; clear n0_ n1_; clear hb ho10; have hcv11 := own_string (P := Tryd.prog) Tryd.underlying67 Tryd.underlying5 Tryd.underlying9 (Kd.own_of_R HO161.out)))
      go_roundg k1
      case measure => have := HK1.out; omega
      case rel => exact ⟨((strOfNums y159) ++ x3_1), (wrap64 (Int.tdiv x4_1 10)), (by first | rfl | (simp; done) | (simp [*]; done)), (by first | rfl | (simp; done) | (simp [*]; done)), H', ⟨by have := HK1.out; omega⟩, ⟨by repeat (first | (with_reducible first | exact HB.out | apply below_alloc | apply pw_below_drewN | apply below_drew1) | exact HB.out)⟩⟩
     ·rw [if_neg c8] at H
      exact absurd H (by simp)
    ·rw [if_neg c7] at H
     have c7b0 : (x3_1.toList == ([] : List UInt8)) = false := beq_eq_false_iff_ne.mpr c7
     have c7b1 : (x3_1.toList != ([] : List UInt8)) = true := bne_iff_ne.mpr c7
     obtain rfl := Option.some.inj H
     go_wp2
     go_ret
     exact ⟨by first | rfl | (simp [errW_none, errW_some] <;> rfl) | (simp [*, errW_none, errW_some] <;> rfl), by repeat (first | (with_reducible first | exact HB.out | apply below_alloc | apply pw_below_drewN | apply below_drew1) | exact HB.out)⟩

end Go.Proofs.YtnlgnmlobklobaaDoor.PAll
