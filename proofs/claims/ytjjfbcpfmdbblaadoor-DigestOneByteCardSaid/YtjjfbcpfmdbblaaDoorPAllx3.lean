-- Written by myprint.py over the kit's print.py (a printed text of this session's own make).
import Derived.Test.YtjjfbcpfmdbblaaDoorPAllx0
import Derived.Test.YtjjfbcpfmdbblaaDoorPAllx1
import Derived.Test.YtjjfbcpfmdbblaaDoorPAllx2
namespace Go.Proofs.YtjjfbcpfmdbblaaDoor.PAll
open Go.Proofs.YtjjfbcpfmdbblaaDoor.Stub Go.Proofs.YtjjfbcpfmdbblaaDoor.DigD
open Go.RowKit Go.Proofs.YtjjfbcpfmdbblaaDoorW.PrintWords Go.Proofs.YtjjfbcpfmdbblaaDoorW.PrintLast Go.Proofs.YtjjfbcpfmdbblaaDoorW.PrintMore
attribute [local go_sem] max2_int min2_int max_two min_two max_three min_three max_four min_four   -- for this text's walks alone
set_option linter.unusedVariables false
set_option linter.unusedSimpArgs false

/-! ### wageofficelaw23_DigestOneByte: function 4 -/
def wageofficelaw23_DigestOneByte.f (k : Nat) (a0 : ByteArray) (a1 : Int) (a2 : Int) (a3 : ByteArray) : Option (Bool) := (wageofficelaw23_head.f k).bind fun t133 => (if 0 ≤ (mn (a0.size : Int) 2000) then (if (mn (a0.size : Int) 2000) ≤ (a0.size : Int) then (if 0 ≤ (mn (a3.size : Int) 200) then (if (mn (a3.size : Int) 200) ≤ (a3.size : Int) then (if ((a0.extract 0 ((mn (a0.size : Int) 2000) : Int).toNat).size : Int) = 0 then (some t133) else ((wageofficelaw23_pick.f a1 ((a0.extract 0 ((mn (a0.size : Int) 2000) : Int).toNat).size : Int)).bind fun t134 => (if 0 ≤ t134 then (if t134 ≤ ((a0.extract 0 ((mn (a0.size : Int) 2000) : Int).toNat).size : Int) then ((some (([a2] : List Int) : List Int)).bind fun y135 => (if ((a0.extract 0 ((mn (a0.size : Int) 2000) : Int).toNat).extract 0 (t134 : Int).toNat).size + (strOfNums y135).size ≤ 9223372036854775807 then (if 0 ≤ (wrap64 (t134 + 1)) then (if (wrap64 (t134 + 1)) ≤ ((a0.extract 0 ((mn (a0.size : Int) 2000) : Int).toNat).size : Int) then (if ((a0.extract 0 ((mn (a0.size : Int) 2000) : Int).toNat).extract 0 (t134 : Int).toNat).size + (strOfNums y135).size + (((a0.extract 0 ((mn (a0.size : Int) 2000) : Int).toNat).extract ((wrap64 (t134 + 1)) : Int).toNat (a0.extract 0 ((mn (a0.size : Int) 2000) : Int).toNat).size).size) ≤ 9223372036854775807 then (if t134 < ((a0.extract 0 ((mn (a0.size : Int) 2000) : Int).toNat).size : Int) then (if t133 = true then ((digest_Sum.f (a0.extract 0 ((mn (a0.size : Int) 2000) : Int).toNat)).bind fun t138 => ((digest_Sum.f ((((a0.extract 0 ((mn (a0.size : Int) 2000) : Int).toNat).extract 0 (t134 : Int).toNat) ++ (strOfNums y135)) ++ ((a0.extract 0 ((mn (a0.size : Int) 2000) : Int).toNat).extract ((wrap64 (t134 + 1)) : Int).toNat (a0.extract 0 ((mn (a0.size : Int) 2000) : Int).toNat).size))).bind fun t139 => (if ((t138 == t139) == ((bt (a0.extract 0 ((mn (a0.size : Int) 2000) : Int).toNat) t134) == a2)) = true then (if (a0.extract 0 ((mn (a0.size : Int) 2000) : Int).toNat).size + (a3.extract 0 ((mn (a3.size : Int) 200) : Int).toNat).size ≤ 9223372036854775807 then ((digest_Sum.f ((a0.extract 0 ((mn (a0.size : Int) 2000) : Int).toNat) ++ (a3.extract 0 ((mn (a3.size : Int) 200) : Int).toNat))).bind fun t140 => (if ((a0.extract 0 ((mn (a0.size : Int) 2000) : Int).toNat).extract 0 (t134 : Int).toNat).size + (strOfNums y135).size + (((a0.extract 0 ((mn (a0.size : Int) 2000) : Int).toNat).extract ((wrap64 (t134 + 1)) : Int).toNat (a0.extract 0 ((mn (a0.size : Int) 2000) : Int).toNat).size).size) + (a3.extract 0 ((mn (a3.size : Int) 200) : Int).toNat).size ≤ 9223372036854775807 then ((digest_Sum.f (((((a0.extract 0 ((mn (a0.size : Int) 2000) : Int).toNat).extract 0 (t134 : Int).toNat) ++ (strOfNums y135)) ++ ((a0.extract 0 ((mn (a0.size : Int) 2000) : Int).toNat).extract ((wrap64 (t134 + 1)) : Int).toNat (a0.extract 0 ((mn (a0.size : Int) 2000) : Int).toNat).size)) ++ (a3.extract 0 ((mn (a3.size : Int) 200) : Int).toNat))).bind fun t141 => (some ((t140 == t141) == ((bt (a0.extract 0 ((mn (a0.size : Int) 2000) : Int).toNat) t134) == a2)))) else (none))) else (none)) else (some false)))) else (some false)) else (none)) else (none)) else (none)) else (none)) else (none))) else (none)) else (none)))) else (none)) else (none)) else (none)) else (none))
theorem wageofficelaw23_DigestOneByte.mono : ∀ a0 a1 a2 a3 k, LeO (wageofficelaw23_DigestOneByte.f k a0 a1 a2 a3) (wageofficelaw23_DigestOneByte.f (k + 1) a0 a1 a2 a3) := by
  intro a0 a1 a2 a3 k
  unfold wageofficelaw23_DigestOneByte.f
  repeat' first
      | (with_reducible exact wageofficelaw23_head.mono _)
      | (with_reducible exact LeO.refl _)
      | (with_reducible exact LeO.none _)
      | (with_reducible refine LeO.ite ?_ ?_)
      | (with_reducible refine LeO.bind ?_ (fun _ => ?_))
      | exact wageofficelaw23_head.mono _
      | exact LeO.none _
      | refine LeO.ite ?_ ?_
      | refine LeO.bind ?_ (fun _ => ?_)
def wageofficelaw23_DigestOneByte.T7 : Bool × List (List Nat × List Nat) := (true, [([], []), ([], []), ([0, 1], [0, 1]), ([], []), ([3], [3]), ([4], [4]), ([2, 5], [2, 5]), ([], []), ([], []), ([8], [8]), ([7, 9], [7, 9]), ([6, 10], [6, 10]), ([11, 0, 1, 2, 3, 4, 5, 6, 7, 8, 9, 10, 11], [11])])
def wageofficelaw23_DigestOneByte.B7 : List Nat := [0, 0, 3, 0, 8, 24, 63, 0, 0, 256, 896, 2047, 4095]
theorem wageofficelaw23_DigestOneByte.tab7 : rtab .any (opsOf Tryd.f4 7) = wageofficelaw23_DigestOneByte.T7 := by kernel_rfl
theorem wageofficelaw23_DigestOneByte.bits7 : waitsOk wageofficelaw23_DigestOneByte.T7.2 wageofficelaw23_DigestOneByte.B7 = true := by kernel_rfl
set_option maxHeartbeats 8000000 in
set_option maxRecDepth 100000 in
theorem wageofficelaw23_DigestOneByte.calls (k : Nat) (a0 : ByteArray) (a1 : Int) (a2 : Int) (a3 : ByteArray) (r : Bool) (w : World) (h : wageofficelaw23_DigestOneByte.f k a0 a1 a2 a3 = some r) (hTHex0 : TabHex w) :
    Calls Tryd.prog 4 #[.string a0, .int .i64 a1, .int .u8 a2, .string a3] w fun e w' => e = .returned (.bool r) ∧ Below w.heap.size w w' := by
  have hTHex := Aside0.mk hTHex0
  clear hTHex0
  have HB := Aside0.mk (Below.refl w.heap.size w)
  have H : ((wageofficelaw23_head.f k).bind fun t133 => (if 0 ≤ (mn (a0.size : Int) 2000) then (if (mn (a0.size : Int) 2000) ≤ (a0.size : Int) then (if 0 ≤ (mn (a3.size : Int) 200) then (if (mn (a3.size : Int) 200) ≤ (a3.size : Int) then (if ((a0.extract 0 ((mn (a0.size : Int) 2000) : Int).toNat).size : Int) = 0 then (some t133) else ((wageofficelaw23_pick.f a1 ((a0.extract 0 ((mn (a0.size : Int) 2000) : Int).toNat).size : Int)).bind fun t134 => (if 0 ≤ t134 then (if t134 ≤ ((a0.extract 0 ((mn (a0.size : Int) 2000) : Int).toNat).size : Int) then ((some (([a2] : List Int) : List Int)).bind fun y135 => (if ((a0.extract 0 ((mn (a0.size : Int) 2000) : Int).toNat).extract 0 (t134 : Int).toNat).size + (strOfNums y135).size ≤ 9223372036854775807 then (if 0 ≤ (wrap64 (t134 + 1)) then (if (wrap64 (t134 + 1)) ≤ ((a0.extract 0 ((mn (a0.size : Int) 2000) : Int).toNat).size : Int) then (if ((a0.extract 0 ((mn (a0.size : Int) 2000) : Int).toNat).extract 0 (t134 : Int).toNat).size + (strOfNums y135).size + (((a0.extract 0 ((mn (a0.size : Int) 2000) : Int).toNat).extract ((wrap64 (t134 + 1)) : Int).toNat (a0.extract 0 ((mn (a0.size : Int) 2000) : Int).toNat).size).size) ≤ 9223372036854775807 then (if t134 < ((a0.extract 0 ((mn (a0.size : Int) 2000) : Int).toNat).size : Int) then (if t133 = true then ((digest_Sum.f (a0.extract 0 ((mn (a0.size : Int) 2000) : Int).toNat)).bind fun t138 => ((digest_Sum.f ((((a0.extract 0 ((mn (a0.size : Int) 2000) : Int).toNat).extract 0 (t134 : Int).toNat) ++ (strOfNums y135)) ++ ((a0.extract 0 ((mn (a0.size : Int) 2000) : Int).toNat).extract ((wrap64 (t134 + 1)) : Int).toNat (a0.extract 0 ((mn (a0.size : Int) 2000) : Int).toNat).size))).bind fun t139 => (if ((t138 == t139) == ((bt (a0.extract 0 ((mn (a0.size : Int) 2000) : Int).toNat) t134) == a2)) = true then (if (a0.extract 0 ((mn (a0.size : Int) 2000) : Int).toNat).size + (a3.extract 0 ((mn (a3.size : Int) 200) : Int).toNat).size ≤ 9223372036854775807 then ((digest_Sum.f ((a0.extract 0 ((mn (a0.size : Int) 2000) : Int).toNat) ++ (a3.extract 0 ((mn (a3.size : Int) 200) : Int).toNat))).bind fun t140 => (if ((a0.extract 0 ((mn (a0.size : Int) 2000) : Int).toNat).extract 0 (t134 : Int).toNat).size + (strOfNums y135).size + (((a0.extract 0 ((mn (a0.size : Int) 2000) : Int).toNat).extract ((wrap64 (t134 + 1)) : Int).toNat (a0.extract 0 ((mn (a0.size : Int) 2000) : Int).toNat).size).size) + (a3.extract 0 ((mn (a3.size : Int) 200) : Int).toNat).size ≤ 9223372036854775807 then ((digest_Sum.f (((((a0.extract 0 ((mn (a0.size : Int) 2000) : Int).toNat).extract 0 (t134 : Int).toNat) ++ (strOfNums y135)) ++ ((a0.extract 0 ((mn (a0.size : Int) 2000) : Int).toNat).extract ((wrap64 (t134 + 1)) : Int).toNat (a0.extract 0 ((mn (a0.size : Int) 2000) : Int).toNat).size)) ++ (a3.extract 0 ((mn (a3.size : Int) 200) : Int).toNat))).bind fun t141 => (some ((t140 == t141) == ((bt (a0.extract 0 ((mn (a0.size : Int) 2000) : Int).toNat) t134) == a2)))) else (none))) else (none)) else (some false)))) else (some false)) else (none)) else (none)) else (none)) else (none)) else (none))) else (none)) else (none)))) else (none)) else (none)) else (none)) else (none))) = some r := h
  clear h
  replace H := Option.bind_eq_some_iff.mp H
  obtain ⟨t133, A50, H⟩ := H
  replace H : (if 0 ≤ (mn (a0.size : Int) 2000) then (if (mn (a0.size : Int) 2000) ≤ (a0.size : Int) then (if 0 ≤ (mn (a3.size : Int) 200) then (if (mn (a3.size : Int) 200) ≤ (a3.size : Int) then (if ((a0.extract 0 ((mn (a0.size : Int) 2000) : Int).toNat).size : Int) = 0 then (some t133) else ((wageofficelaw23_pick.f a1 ((a0.extract 0 ((mn (a0.size : Int) 2000) : Int).toNat).size : Int)).bind fun t134 => (if 0 ≤ t134 then (if t134 ≤ ((a0.extract 0 ((mn (a0.size : Int) 2000) : Int).toNat).size : Int) then ((some (([a2] : List Int) : List Int)).bind fun y135 => (if ((a0.extract 0 ((mn (a0.size : Int) 2000) : Int).toNat).extract 0 (t134 : Int).toNat).size + (strOfNums y135).size ≤ 9223372036854775807 then (if 0 ≤ (wrap64 (t134 + 1)) then (if (wrap64 (t134 + 1)) ≤ ((a0.extract 0 ((mn (a0.size : Int) 2000) : Int).toNat).size : Int) then (if ((a0.extract 0 ((mn (a0.size : Int) 2000) : Int).toNat).extract 0 (t134 : Int).toNat).size + (strOfNums y135).size + (((a0.extract 0 ((mn (a0.size : Int) 2000) : Int).toNat).extract ((wrap64 (t134 + 1)) : Int).toNat (a0.extract 0 ((mn (a0.size : Int) 2000) : Int).toNat).size).size) ≤ 9223372036854775807 then (if t134 < ((a0.extract 0 ((mn (a0.size : Int) 2000) : Int).toNat).size : Int) then (if t133 = true then ((digest_Sum.f (a0.extract 0 ((mn (a0.size : Int) 2000) : Int).toNat)).bind fun t138 => ((digest_Sum.f ((((a0.extract 0 ((mn (a0.size : Int) 2000) : Int).toNat).extract 0 (t134 : Int).toNat) ++ (strOfNums y135)) ++ ((a0.extract 0 ((mn (a0.size : Int) 2000) : Int).toNat).extract ((wrap64 (t134 + 1)) : Int).toNat (a0.extract 0 ((mn (a0.size : Int) 2000) : Int).toNat).size))).bind fun t139 => (if ((t138 == t139) == ((bt (a0.extract 0 ((mn (a0.size : Int) 2000) : Int).toNat) t134) == a2)) = true then (if (a0.extract 0 ((mn (a0.size : Int) 2000) : Int).toNat).size + (a3.extract 0 ((mn (a3.size : Int) 200) : Int).toNat).size ≤ 9223372036854775807 then ((digest_Sum.f ((a0.extract 0 ((mn (a0.size : Int) 2000) : Int).toNat) ++ (a3.extract 0 ((mn (a3.size : Int) 200) : Int).toNat))).bind fun t140 => (if ((a0.extract 0 ((mn (a0.size : Int) 2000) : Int).toNat).extract 0 (t134 : Int).toNat).size + (strOfNums y135).size + (((a0.extract 0 ((mn (a0.size : Int) 2000) : Int).toNat).extract ((wrap64 (t134 + 1)) : Int).toNat (a0.extract 0 ((mn (a0.size : Int) 2000) : Int).toNat).size).size) + (a3.extract 0 ((mn (a3.size : Int) 200) : Int).toNat).size ≤ 9223372036854775807 then ((digest_Sum.f (((((a0.extract 0 ((mn (a0.size : Int) 2000) : Int).toNat).extract 0 (t134 : Int).toNat) ++ (strOfNums y135)) ++ ((a0.extract 0 ((mn (a0.size : Int) 2000) : Int).toNat).extract ((wrap64 (t134 + 1)) : Int).toNat (a0.extract 0 ((mn (a0.size : Int) 2000) : Int).toNat).size)) ++ (a3.extract 0 ((mn (a3.size : Int) 200) : Int).toNat))).bind fun t141 => (some ((t140 == t141) == ((bt (a0.extract 0 ((mn (a0.size : Int) 2000) : Int).toNat) t134) == a2)))) else (none))) else (none)) else (some false)))) else (some false)) else (none)) else (none)) else (none)) else (none)) else (none))) else (none)) else (none)))) else (none)) else (none)) else (none)) else (none)) = some r := H
  have A5 := Aside0.mk A50
  clear A50
  obtain ⟨ji6, hji6⟩ : ∃ j_ : Int, (mn (a0.size : Int) 2000) = j_ := ⟨_, rfl⟩
  replace H : (if 0 ≤ (ji6) then (if (ji6) ≤ (a0.size : Int) then (if 0 ≤ (mn (a3.size : Int) 200) then (if (mn (a3.size : Int) 200) ≤ (a3.size : Int) then (if ((a0.extract 0 ((ji6) : Int).toNat).size : Int) = 0 then (some t133) else ((wageofficelaw23_pick.f a1 ((a0.extract 0 ((ji6) : Int).toNat).size : Int)).bind fun t134 => (if 0 ≤ t134 then (if t134 ≤ ((a0.extract 0 ((ji6) : Int).toNat).size : Int) then ((some (([a2] : List Int) : List Int)).bind fun y135 => (if ((a0.extract 0 ((ji6) : Int).toNat).extract 0 (t134 : Int).toNat).size + (strOfNums y135).size ≤ 9223372036854775807 then (if 0 ≤ (wrap64 (t134 + 1)) then (if (wrap64 (t134 + 1)) ≤ ((a0.extract 0 ((ji6) : Int).toNat).size : Int) then (if ((a0.extract 0 ((ji6) : Int).toNat).extract 0 (t134 : Int).toNat).size + (strOfNums y135).size + (((a0.extract 0 ((ji6) : Int).toNat).extract ((wrap64 (t134 + 1)) : Int).toNat (a0.extract 0 ((ji6) : Int).toNat).size).size) ≤ 9223372036854775807 then (if t134 < ((a0.extract 0 ((ji6) : Int).toNat).size : Int) then (if t133 = true then ((digest_Sum.f (a0.extract 0 ((ji6) : Int).toNat)).bind fun t138 => ((digest_Sum.f ((((a0.extract 0 ((ji6) : Int).toNat).extract 0 (t134 : Int).toNat) ++ (strOfNums y135)) ++ ((a0.extract 0 ((ji6) : Int).toNat).extract ((wrap64 (t134 + 1)) : Int).toNat (a0.extract 0 ((ji6) : Int).toNat).size))).bind fun t139 => (if ((t138 == t139) == ((bt (a0.extract 0 ((ji6) : Int).toNat) t134) == a2)) = true then (if (a0.extract 0 ((ji6) : Int).toNat).size + (a3.extract 0 ((mn (a3.size : Int) 200) : Int).toNat).size ≤ 9223372036854775807 then ((digest_Sum.f ((a0.extract 0 ((ji6) : Int).toNat) ++ (a3.extract 0 ((mn (a3.size : Int) 200) : Int).toNat))).bind fun t140 => (if ((a0.extract 0 ((ji6) : Int).toNat).extract 0 (t134 : Int).toNat).size + (strOfNums y135).size + (((a0.extract 0 ((ji6) : Int).toNat).extract ((wrap64 (t134 + 1)) : Int).toNat (a0.extract 0 ((ji6) : Int).toNat).size).size) + (a3.extract 0 ((mn (a3.size : Int) 200) : Int).toNat).size ≤ 9223372036854775807 then ((digest_Sum.f (((((a0.extract 0 ((ji6) : Int).toNat).extract 0 (t134 : Int).toNat) ++ (strOfNums y135)) ++ ((a0.extract 0 ((ji6) : Int).toNat).extract ((wrap64 (t134 + 1)) : Int).toNat (a0.extract 0 ((ji6) : Int).toNat).size)) ++ (a3.extract 0 ((mn (a3.size : Int) 200) : Int).toNat))).bind fun t141 => (some ((t140 == t141) == ((bt (a0.extract 0 ((ji6) : Int).toNat) t134) == a2)))) else (none))) else (none)) else (some false)))) else (some false)) else (none)) else (none)) else (none)) else (none)) else (none))) else (none)) else (none)))) else (none)) else (none)) else (none)) else (none)) = some r := by first | (rw [hji6] at H; exact H) | (simp only [hji6] at H ⊢; exact H)
  (try rw [hji6] at A5)
  (try (have hji6h : ji6 ≤ 2000 := by (rw [← hji6]; unfold mn; (repeat' split) <;> omega)))
  (try (have hji6g : ji6 ≤ 64 := by omega))
  (try (have hji6l : 0 ≤ ji6 := by (rw [← hji6]; unfold mn; (repeat' split) <;> omega)))
  (try (have hji6m : 0 ≤ ji6 := by omega))
  have hji6_ : (if 2000 < (a0.size : Int) then 2000 else (a0.size : Int)) = ji6 := hji6
  by_cases c7 : 0 ≤ (ji6)
  · rw [if_pos c7] at H
    have c7b0 := eq_true c7
    have c7b1 : decide (0 ≤ (ji6)) = true := decide_eq_true c7
    clear c7
    by_cases c8 : (ji6) ≤ (a0.size : Int)
    · rw [if_pos c8] at H
      have c8b0 := eq_true c8
      have c8b1 : decide ((ji6) ≤ (a0.size : Int)) = true := decide_eq_true c8
      clear c8
      obtain ⟨js9, hjs9⟩ : ∃ s_ : ByteArray, (a0.extract 0 ((ji6) : Int).toNat) = s_ := ⟨_, rfl⟩
      replace H : (if 0 ≤ (mn (a3.size : Int) 200) then (if (mn (a3.size : Int) 200) ≤ (a3.size : Int) then (if (js9.size : Int) = 0 then (some t133) else ((wageofficelaw23_pick.f a1 (js9.size : Int)).bind fun t134 => (if 0 ≤ t134 then (if t134 ≤ (js9.size : Int) then ((some (([a2] : List Int) : List Int)).bind fun y135 => (if (js9.extract 0 (t134 : Int).toNat).size + (strOfNums y135).size ≤ 9223372036854775807 then (if 0 ≤ (wrap64 (t134 + 1)) then (if (wrap64 (t134 + 1)) ≤ (js9.size : Int) then (if (js9.extract 0 (t134 : Int).toNat).size + (strOfNums y135).size + ((js9.extract ((wrap64 (t134 + 1)) : Int).toNat js9.size).size) ≤ 9223372036854775807 then (if t134 < (js9.size : Int) then (if t133 = true then ((digest_Sum.f js9).bind fun t138 => ((digest_Sum.f (((js9.extract 0 (t134 : Int).toNat) ++ (strOfNums y135)) ++ (js9.extract ((wrap64 (t134 + 1)) : Int).toNat js9.size))).bind fun t139 => (if ((t138 == t139) == ((bt js9 t134) == a2)) = true then (if js9.size + (a3.extract 0 ((mn (a3.size : Int) 200) : Int).toNat).size ≤ 9223372036854775807 then ((digest_Sum.f (js9 ++ (a3.extract 0 ((mn (a3.size : Int) 200) : Int).toNat))).bind fun t140 => (if (js9.extract 0 (t134 : Int).toNat).size + (strOfNums y135).size + ((js9.extract ((wrap64 (t134 + 1)) : Int).toNat js9.size).size) + (a3.extract 0 ((mn (a3.size : Int) 200) : Int).toNat).size ≤ 9223372036854775807 then ((digest_Sum.f ((((js9.extract 0 (t134 : Int).toNat) ++ (strOfNums y135)) ++ (js9.extract ((wrap64 (t134 + 1)) : Int).toNat js9.size)) ++ (a3.extract 0 ((mn (a3.size : Int) 200) : Int).toNat))).bind fun t141 => (some ((t140 == t141) == ((bt js9 t134) == a2)))) else (none))) else (none)) else (some false)))) else (some false)) else (none)) else (none)) else (none)) else (none)) else (none))) else (none)) else (none)))) else (none)) else (none)) = some r := by first | (rw [hjs9] at H; exact H) | (simp only [hjs9] at H ⊢; exact H)
      (try rw [hjs9] at A5)
      obtain ⟨ji10, hji10⟩ : ∃ j_ : Int, (mn (a3.size : Int) 200) = j_ := ⟨_, rfl⟩
      replace H : (if 0 ≤ (ji10) then (if (ji10) ≤ (a3.size : Int) then (if (js9.size : Int) = 0 then (some t133) else ((wageofficelaw23_pick.f a1 (js9.size : Int)).bind fun t134 => (if 0 ≤ t134 then (if t134 ≤ (js9.size : Int) then ((some (([a2] : List Int) : List Int)).bind fun y135 => (if (js9.extract 0 (t134 : Int).toNat).size + (strOfNums y135).size ≤ 9223372036854775807 then (if 0 ≤ (wrap64 (t134 + 1)) then (if (wrap64 (t134 + 1)) ≤ (js9.size : Int) then (if (js9.extract 0 (t134 : Int).toNat).size + (strOfNums y135).size + ((js9.extract ((wrap64 (t134 + 1)) : Int).toNat js9.size).size) ≤ 9223372036854775807 then (if t134 < (js9.size : Int) then (if t133 = true then ((digest_Sum.f js9).bind fun t138 => ((digest_Sum.f (((js9.extract 0 (t134 : Int).toNat) ++ (strOfNums y135)) ++ (js9.extract ((wrap64 (t134 + 1)) : Int).toNat js9.size))).bind fun t139 => (if ((t138 == t139) == ((bt js9 t134) == a2)) = true then (if js9.size + (a3.extract 0 ((ji10) : Int).toNat).size ≤ 9223372036854775807 then ((digest_Sum.f (js9 ++ (a3.extract 0 ((ji10) : Int).toNat))).bind fun t140 => (if (js9.extract 0 (t134 : Int).toNat).size + (strOfNums y135).size + ((js9.extract ((wrap64 (t134 + 1)) : Int).toNat js9.size).size) + (a3.extract 0 ((ji10) : Int).toNat).size ≤ 9223372036854775807 then ((digest_Sum.f ((((js9.extract 0 (t134 : Int).toNat) ++ (strOfNums y135)) ++ (js9.extract ((wrap64 (t134 + 1)) : Int).toNat js9.size)) ++ (a3.extract 0 ((ji10) : Int).toNat))).bind fun t141 => (some ((t140 == t141) == ((bt js9 t134) == a2)))) else (none))) else (none)) else (some false)))) else (some false)) else (none)) else (none)) else (none)) else (none)) else (none))) else (none)) else (none)))) else (none)) else (none)) = some r := by first | (rw [hji10] at H; exact H) | (simp only [hji10] at H ⊢; exact H)
      (try rw [hji10] at A5)
      (try (have hji10h : ji10 ≤ 200 := by (rw [← hji10]; unfold mn; (repeat' split) <;> omega)))
      (try (have hji10g : ji10 ≤ 64 := by omega))
      (try (have hji10l : 0 ≤ ji10 := by (rw [← hji10]; unfold mn; (repeat' split) <;> omega)))
      (try (have hji10m : 0 ≤ ji10 := by omega))
      have hji10_ : (if 200 < (a3.size : Int) then 200 else (a3.size : Int)) = ji10 := hji10
      by_cases c11 : 0 ≤ (ji10)
      · rw [if_pos c11] at H
        have c11b0 := eq_true c11
        have c11b1 : decide (0 ≤ (ji10)) = true := decide_eq_true c11
        clear c11
        by_cases c12 : (ji10) ≤ (a3.size : Int)
        · rw [if_pos c12] at H
          have c12b0 := eq_true c12
          have c12b1 : decide ((ji10) ≤ (a3.size : Int)) = true := decide_eq_true c12
          clear c12
          obtain ⟨js13, hjs13⟩ : ∃ s_ : ByteArray, (a3.extract 0 ((ji10) : Int).toNat) = s_ := ⟨_, rfl⟩
          replace H : (if (js9.size : Int) = 0 then (some t133) else ((wageofficelaw23_pick.f a1 (js9.size : Int)).bind fun t134 => (if 0 ≤ t134 then (if t134 ≤ (js9.size : Int) then ((some (([a2] : List Int) : List Int)).bind fun y135 => (if (js9.extract 0 (t134 : Int).toNat).size + (strOfNums y135).size ≤ 9223372036854775807 then (if 0 ≤ (wrap64 (t134 + 1)) then (if (wrap64 (t134 + 1)) ≤ (js9.size : Int) then (if (js9.extract 0 (t134 : Int).toNat).size + (strOfNums y135).size + ((js9.extract ((wrap64 (t134 + 1)) : Int).toNat js9.size).size) ≤ 9223372036854775807 then (if t134 < (js9.size : Int) then (if t133 = true then ((digest_Sum.f js9).bind fun t138 => ((digest_Sum.f (((js9.extract 0 (t134 : Int).toNat) ++ (strOfNums y135)) ++ (js9.extract ((wrap64 (t134 + 1)) : Int).toNat js9.size))).bind fun t139 => (if ((t138 == t139) == ((bt js9 t134) == a2)) = true then (if js9.size + js13.size ≤ 9223372036854775807 then ((digest_Sum.f (js9 ++ js13)).bind fun t140 => (if (js9.extract 0 (t134 : Int).toNat).size + (strOfNums y135).size + ((js9.extract ((wrap64 (t134 + 1)) : Int).toNat js9.size).size) + js13.size ≤ 9223372036854775807 then ((digest_Sum.f ((((js9.extract 0 (t134 : Int).toNat) ++ (strOfNums y135)) ++ (js9.extract ((wrap64 (t134 + 1)) : Int).toNat js9.size)) ++ js13)).bind fun t141 => (some ((t140 == t141) == ((bt js9 t134) == a2)))) else (none))) else (none)) else (some false)))) else (some false)) else (none)) else (none)) else (none)) else (none)) else (none))) else (none)) else (none)))) = some r := by first | (rw [hjs13] at H; exact H) | (simp only [hjs13] at H ⊢; exact H)
          (try rw [hjs13] at A5)
          by_cases c14 : (js9.size : Int) = 0
          · rw [if_pos c14] at H
            have c14b0 : ((js9.size : Int) == 0) = true := beq_iff_eq.mpr c14
            have c14b1 : ((js9.size : Int) != 0) = false := bne_eq_false_iff_eq.mpr c14
            clear c14
            obtain rfl := Option.some.inj H
            go_enter Tryd.func4, Tryd.ntmps4
            go_wp2_with (first | ((with_reducible refine gate_callee (f := 9) rfl ?_); refine goesL_ (some 13) rfl rfl Tryd.func9 (by kernel_rfl) rfl #[] rfl (by (try simp only [List.map_toArray, List.map_cons, List.map_nil]); first | done | rfl | (simp only [List.length_drop, List.length_take]; rfl)) ?_; (with_reducible refine (wageofficelaw23_head.calls k  t133 _ A5.out (TabHex.below hTHex.out (by repeat (first | (with_reducible first | exact HB.out | exact Below.refl _ _ | apply below_alloc | apply pw_below_drewN | apply below_drew1 | apply below_drew) | exact HB.out)))).mono ?_); rintro e w15 ⟨rfl, hb⟩; refine ⟨_, rfl, ?_⟩; have n0_ := Aside0.mk (below_step (by repeat (first | (with_reducible first | exact HB.out | apply below_alloc | apply pw_below_drewN | apply below_drew1) | exact HB.out)) hb); clear HB; have HB := n0_; clear n0_; (try clear hb); (try clear hb2); (try clear hk); (try clear hi)))
            go_ret
            exact ⟨by first | rfl | (simp [errW_none, errW_some] <;> rfl) | (simp only [← hji6, ← hjs9, ← hji10, ← hjs13]; first | rfl | (simp [errW_none, errW_some] <;> rfl)) | (simp [*, errW_none, errW_some] <;> rfl), by repeat (first | (with_reducible first | exact HB.out | apply below_alloc | apply pw_below_drewN | apply below_drew1) | exact HB.out)⟩
          · rw [if_neg c14] at H
            have c14b0 : ((js9.size : Int) == 0) = false := beq_eq_false_iff_ne.mpr c14
            have c14b1 : ((js9.size : Int) != 0) = true := bne_iff_ne.mpr c14
            replace H := Option.bind_eq_some_iff.mp H
            obtain ⟨t134, A160, H⟩ := H
            replace H : (if 0 ≤ t134 then (if t134 ≤ (js9.size : Int) then ((some (([a2] : List Int) : List Int)).bind fun y135 => (if (js9.extract 0 (t134 : Int).toNat).size + (strOfNums y135).size ≤ 9223372036854775807 then (if 0 ≤ (wrap64 (t134 + 1)) then (if (wrap64 (t134 + 1)) ≤ (js9.size : Int) then (if (js9.extract 0 (t134 : Int).toNat).size + (strOfNums y135).size + ((js9.extract ((wrap64 (t134 + 1)) : Int).toNat js9.size).size) ≤ 9223372036854775807 then (if t134 < (js9.size : Int) then (if t133 = true then ((digest_Sum.f js9).bind fun t138 => ((digest_Sum.f (((js9.extract 0 (t134 : Int).toNat) ++ (strOfNums y135)) ++ (js9.extract ((wrap64 (t134 + 1)) : Int).toNat js9.size))).bind fun t139 => (if ((t138 == t139) == ((bt js9 t134) == a2)) = true then (if js9.size + js13.size ≤ 9223372036854775807 then ((digest_Sum.f (js9 ++ js13)).bind fun t140 => (if (js9.extract 0 (t134 : Int).toNat).size + (strOfNums y135).size + ((js9.extract ((wrap64 (t134 + 1)) : Int).toNat js9.size).size) + js13.size ≤ 9223372036854775807 then ((digest_Sum.f ((((js9.extract 0 (t134 : Int).toNat) ++ (strOfNums y135)) ++ (js9.extract ((wrap64 (t134 + 1)) : Int).toNat js9.size)) ++ js13)).bind fun t141 => (some ((t140 == t141) == ((bt js9 t134) == a2)))) else (none))) else (none)) else (some false)))) else (some false)) else (none)) else (none)) else (none)) else (none)) else (none))) else (none)) else (none)) = some r := H
            have A16 := Aside0.mk A160
            clear A160
            by_cases c17 : 0 ≤ t134
            · rw [if_pos c17] at H
              have c17b0 := eq_true c17
              have c17b1 : decide (0 ≤ t134) = true := decide_eq_true c17
              clear c17
              by_cases c18 : t134 ≤ (js9.size : Int)
              · rw [if_pos c18] at H
                have c18b0 := eq_true c18
                have c18b1 : decide (t134 ≤ (js9.size : Int)) = true := decide_eq_true c18
                clear c18
                obtain ⟨js19, hjs19⟩ : ∃ s_ : ByteArray, (js9.extract 0 (t134 : Int).toNat) = s_ := ⟨_, rfl⟩
                replace H : ((some (([a2] : List Int) : List Int)).bind fun y135 => (if js19.size + (strOfNums y135).size ≤ 9223372036854775807 then (if 0 ≤ (wrap64 (t134 + 1)) then (if (wrap64 (t134 + 1)) ≤ (js9.size : Int) then (if js19.size + (strOfNums y135).size + ((js9.extract ((wrap64 (t134 + 1)) : Int).toNat js9.size).size) ≤ 9223372036854775807 then (if t134 < (js9.size : Int) then (if t133 = true then ((digest_Sum.f js9).bind fun t138 => ((digest_Sum.f ((js19 ++ (strOfNums y135)) ++ (js9.extract ((wrap64 (t134 + 1)) : Int).toNat js9.size))).bind fun t139 => (if ((t138 == t139) == ((bt js9 t134) == a2)) = true then (if js9.size + js13.size ≤ 9223372036854775807 then ((digest_Sum.f (js9 ++ js13)).bind fun t140 => (if js19.size + (strOfNums y135).size + ((js9.extract ((wrap64 (t134 + 1)) : Int).toNat js9.size).size) + js13.size ≤ 9223372036854775807 then ((digest_Sum.f (((js19 ++ (strOfNums y135)) ++ (js9.extract ((wrap64 (t134 + 1)) : Int).toNat js9.size)) ++ js13)).bind fun t141 => (some ((t140 == t141) == ((bt js9 t134) == a2)))) else (none))) else (none)) else (some false)))) else (some false)) else (none)) else (none)) else (none)) else (none)) else (none))) = some r := by first | (rw [hjs19] at H; exact H) | (simp only [hjs19] at H ⊢; exact H)
                (try rw [hjs19] at A5)
                (try rw [hjs19] at A16)
                obtain ⟨y135, hy135⟩ : ∃ y_ : List Int, y_ = (([a2] : List Int)) := ⟨_, rfl⟩
                replace H : (if js19.size + (strOfNums y135).size ≤ 9223372036854775807 then (if 0 ≤ (wrap64 (t134 + 1)) then (if (wrap64 (t134 + 1)) ≤ (js9.size : Int) then (if js19.size + (strOfNums y135).size + ((js9.extract ((wrap64 (t134 + 1)) : Int).toNat js9.size).size) ≤ 9223372036854775807 then (if t134 < (js9.size : Int) then (if t133 = true then ((digest_Sum.f js9).bind fun t138 => ((digest_Sum.f ((js19 ++ (strOfNums y135)) ++ (js9.extract ((wrap64 (t134 + 1)) : Int).toNat js9.size))).bind fun t139 => (if ((t138 == t139) == ((bt js9 t134) == a2)) = true then (if js9.size + js13.size ≤ 9223372036854775807 then ((digest_Sum.f (js9 ++ js13)).bind fun t140 => (if js19.size + (strOfNums y135).size + ((js9.extract ((wrap64 (t134 + 1)) : Int).toNat js9.size).size) + js13.size ≤ 9223372036854775807 then ((digest_Sum.f (((js19 ++ (strOfNums y135)) ++ (js9.extract ((wrap64 (t134 + 1)) : Int).toNat js9.size)) ++ js13)).bind fun t141 => (some ((t140 == t141) == ((bt js9 t134) == a2)))) else (none))) else (none)) else (some false)))) else (some false)) else (none)) else (none)) else (none)) else (none)) else (none)) = some r := by first | (rw [hy135]; with_reducible exact H) | (have H2_ := (Option.bind_some _ _).symm.trans H; rw [hy135]; with_reducible exact H2_) | (have H2_ := (Option.bind_some _ _).symm.trans H; with_reducible exact H2_) | with_reducible exact H | (rw [hy135]; exact H) | exact H
                have Ny135 := Aside0.mk hy135
                clear hy135
                by_cases c20 : js19.size + (strOfNums y135).size ≤ 9223372036854775807
                · rw [if_pos c20] at H
                  have c20b0 := eq_true c20
                  have c20b1 : decide (js19.size + (strOfNums y135).size ≤ 9223372036854775807) = true := decide_eq_true c20
                  try have c20b2 : (9223372036854775807 < js19.size + (strOfNums y135).size) = False := eq_false (Nat.not_lt.2 c20)
                  obtain ⟨ji21, hji21⟩ : ∃ j_ : Int, (wrap64 (t134 + 1)) = j_ := ⟨_, rfl⟩
                  replace H : (if 0 ≤ (ji21) then (if (ji21) ≤ (js9.size : Int) then (if js19.size + (strOfNums y135).size + ((js9.extract ((ji21) : Int).toNat js9.size).size) ≤ 9223372036854775807 then (if t134 < (js9.size : Int) then (if t133 = true then ((digest_Sum.f js9).bind fun t138 => ((digest_Sum.f ((js19 ++ (strOfNums y135)) ++ (js9.extract ((ji21) : Int).toNat js9.size))).bind fun t139 => (if ((t138 == t139) == ((bt js9 t134) == a2)) = true then (if js9.size + js13.size ≤ 9223372036854775807 then ((digest_Sum.f (js9 ++ js13)).bind fun t140 => (if js19.size + (strOfNums y135).size + ((js9.extract ((ji21) : Int).toNat js9.size).size) + js13.size ≤ 9223372036854775807 then ((digest_Sum.f (((js19 ++ (strOfNums y135)) ++ (js9.extract ((ji21) : Int).toNat js9.size)) ++ js13)).bind fun t141 => (some ((t140 == t141) == ((bt js9 t134) == a2)))) else (none))) else (none)) else (some false)))) else (some false)) else (none)) else (none)) else (none)) else (none)) = some r := by first | (rw [hji21] at H; exact H) | (simp only [hji21] at H ⊢; exact H)
                  (try rw [hji21] at A5)
                  (try rw [hji21] at A16)
                  have hji21w : (IntKind.i64.wrap (t134 + 1)) = ji21 := (i64_w _).trans hji21
                  by_cases c22 : 0 ≤ (ji21)
                  · rw [if_pos c22] at H
                    have c22b0 := eq_true c22
                    have c22b1 : decide (0 ≤ (ji21)) = true := decide_eq_true c22
                    clear c22
                    by_cases c23 : (ji21) ≤ (js9.size : Int)
                    · rw [if_pos c23] at H
                      have c23b0 := eq_true c23
                      have c23b1 : decide ((ji21) ≤ (js9.size : Int)) = true := decide_eq_true c23
                      clear c23
                      obtain ⟨js24, hjs24⟩ : ∃ s_ : ByteArray, (js9.extract ((ji21) : Int).toNat js9.size) = s_ := ⟨_, rfl⟩
                      replace H : (if js19.size + (strOfNums y135).size + (js24.size) ≤ 9223372036854775807 then (if t134 < (js9.size : Int) then (if t133 = true then ((digest_Sum.f js9).bind fun t138 => ((digest_Sum.f ((js19 ++ (strOfNums y135)) ++ js24)).bind fun t139 => (if ((t138 == t139) == ((bt js9 t134) == a2)) = true then (if js9.size + js13.size ≤ 9223372036854775807 then ((digest_Sum.f (js9 ++ js13)).bind fun t140 => (if js19.size + (strOfNums y135).size + (js24.size) + js13.size ≤ 9223372036854775807 then ((digest_Sum.f (((js19 ++ (strOfNums y135)) ++ js24) ++ js13)).bind fun t141 => (some ((t140 == t141) == ((bt js9 t134) == a2)))) else (none))) else (none)) else (some false)))) else (some false)) else (none)) else (none)) = some r := by first | (rw [hjs24] at H; exact H) | (simp only [hjs24] at H ⊢; exact H)
                      (try rw [hjs24] at A5)
                      (try rw [hjs24] at A16)
                      by_cases c25 : js19.size + (strOfNums y135).size + (js24.size) ≤ 9223372036854775807
                      · rw [if_pos c25] at H
                        have c25b0 := eq_true c25
                        have c25b1 : decide (js19.size + (strOfNums y135).size + (js24.size) ≤ 9223372036854775807) = true := decide_eq_true c25
                        try have c25b2 : (9223372036854775807 < js19.size + (strOfNums y135).size + (js24.size)) = False := eq_false (Nat.not_lt.2 c25)
                        by_cases c26 : t134 < (js9.size : Int)
                        · rw [if_pos c26] at H
                          have c26b0 : decide (t134 < (js9.size : Int)) = true := decide_eq_true c26
                          clear c26
                          by_cases c28 : t133 = true
                          · subst c28
                            have H1 : ((digest_Sum.f js9).bind fun t138 => ((digest_Sum.f ((js19 ++ (strOfNums y135)) ++ js24)).bind fun t139 => (if ((t138 == t139) == ((bt js9 t134) == a2)) = true then (if js9.size + js13.size ≤ 9223372036854775807 then ((digest_Sum.f (js9 ++ js13)).bind fun t140 => (if js19.size + (strOfNums y135).size + (js24.size) + js13.size ≤ 9223372036854775807 then ((digest_Sum.f (((js19 ++ (strOfNums y135)) ++ js24) ++ js13)).bind fun t141 => (some ((t140 == t141) == ((bt js9 t134) == a2)))) else (none))) else (none)) else (some false)))) = some r := by rw [if_pos rfl] at H; exact H
                            clear H
                            have H := H1
                            clear H1
                            replace H := Option.bind_eq_some_iff.mp H
                            obtain ⟨t138, A290, H⟩ := H
                            replace H : ((digest_Sum.f ((js19 ++ (strOfNums y135)) ++ js24)).bind fun t139 => (if ((t138 == t139) == ((bt js9 t134) == a2)) = true then (if js9.size + js13.size ≤ 9223372036854775807 then ((digest_Sum.f (js9 ++ js13)).bind fun t140 => (if js19.size + (strOfNums y135).size + (js24.size) + js13.size ≤ 9223372036854775807 then ((digest_Sum.f (((js19 ++ (strOfNums y135)) ++ js24) ++ js13)).bind fun t141 => (some ((t140 == t141) == ((bt js9 t134) == a2)))) else (none))) else (none)) else (some false))) = some r := H
                            have A29 := Aside0.mk A290
                            clear A290
                            replace H := Option.bind_eq_some_iff.mp H
                            obtain ⟨t139, A300, H⟩ := H
                            replace H : (if ((t138 == t139) == ((bt js9 t134) == a2)) = true then (if js9.size + js13.size ≤ 9223372036854775807 then ((digest_Sum.f (js9 ++ js13)).bind fun t140 => (if js19.size + (strOfNums y135).size + (js24.size) + js13.size ≤ 9223372036854775807 then ((digest_Sum.f (((js19 ++ (strOfNums y135)) ++ js24) ++ js13)).bind fun t141 => (some ((t140 == t141) == ((bt js9 t134) == a2)))) else (none))) else (none)) else (some false)) = some r := H
                            have A30 := Aside0.mk A300
                            clear A300
                            by_cases c31 : ((t138 == t139) == ((bt js9 t134) == a2)) = true
                            · rw [if_pos c31] at H
                              have c31b0 : ((t138 == t139) == ((bt js9 t134) == a2)) = true := c31
                              (try (have c31b1 : decide ((t138 == t139) = ((bt js9 t134) == a2)) = true := by simpa using c31))
                              (try (have c31b2 : ((t138 == t139) == ((bt js9 t134) == a2)) = true := by simpa using c31))
                              clear c31
                              by_cases c32 : js9.size + js13.size ≤ 9223372036854775807
                              · rw [if_pos c32] at H
                                have c32b0 := eq_true c32
                                have c32b1 : decide (js9.size + js13.size ≤ 9223372036854775807) = true := decide_eq_true c32
                                try have c32b2 : (9223372036854775807 < js9.size + js13.size) = False := eq_false (Nat.not_lt.2 c32)
                                replace H := Option.bind_eq_some_iff.mp H
                                obtain ⟨t140, A330, H⟩ := H
                                replace H : (if js19.size + (strOfNums y135).size + (js24.size) + js13.size ≤ 9223372036854775807 then ((digest_Sum.f (((js19 ++ (strOfNums y135)) ++ js24) ++ js13)).bind fun t141 => (some ((t140 == t141) == ((bt js9 t134) == a2)))) else (none)) = some r := H
                                have A33 := Aside0.mk A330
                                clear A330
                                by_cases c34 : js19.size + (strOfNums y135).size + (js24.size) + js13.size ≤ 9223372036854775807
                                · rw [if_pos c34] at H
                                  have c34b0 := eq_true c34
                                  have c34b1 : decide (js19.size + (strOfNums y135).size + (js24.size) + js13.size ≤ 9223372036854775807) = true := decide_eq_true c34
                                  try have c34b2 : (9223372036854775807 < js19.size + (strOfNums y135).size + (js24.size) + js13.size) = False := eq_false (Nat.not_lt.2 c34)
                                  replace H := Option.bind_eq_some_iff.mp H
                                  obtain ⟨t141, A350, H⟩ := H
                                  replace H : (some ((t140 == t141) == ((bt js9 t134) == a2))) = some r := H
                                  have A35 := Aside0.mk A350
                                  clear A350
                                  obtain rfl := Option.some.inj H
                                  go_enter Tryd.func4, Tryd.ntmps4
                                  try go_wp2_with (first | ((with_reducible refine gate_callee (f := 9) rfl ?_); refine goesL_ (some 13) rfl rfl Tryd.func9 (by kernel_rfl) rfl #[] rfl (by (try simp only [List.map_toArray, List.map_cons, List.map_nil]); first | done | rfl | (simp only [List.length_drop, List.length_take]; rfl)) ?_; (with_reducible refine (wageofficelaw23_head.calls k  true _ A5.out (TabHex.below hTHex.out (by repeat (first | (with_reducible first | exact HB.out | exact Below.refl _ _ | apply below_alloc | apply pw_below_drewN | apply below_drew1 | apply below_drew) | exact HB.out)))).mono ?_); rintro e w36 ⟨rfl, hb⟩; refine ⟨_, rfl, ?_⟩; have n0_ := Aside0.mk (below_step (by repeat (first | (with_reducible first | exact HB.out | apply below_alloc | apply pw_below_drewN | apply below_drew1) | exact HB.out)) hb); clear HB; have HB := n0_; clear n0_; (try clear hb); (try clear hb2); (try clear hk); (try clear hi)) | ((with_reducible refine gate_callee (f := 18) rfl ?_); refine goesL_ (some 31) rfl rfl Tryd.func18 (by kernel_rfl) rfl #[.int .i64 a1, .int .i64 (js9.size : Int)] rfl (by (try simp only [List.map_toArray, List.map_cons, List.map_nil]); first | done | rfl | (simp only [List.length_drop, List.length_take]; rfl)) ?_; (with_reducible refine (wageofficelaw23_pick.calls a1 (js9.size : Int) t134 _ A16.out).mono ?_); rintro e w' ⟨rfl, ⟨nd, rfl⟩⟩; refine ⟨_, rfl, ?_⟩))
                                  (try (rw [drewN_self w36]; generalize hq_ : World.drewN w36 _ = w36; have n0_ : Aside0 (Below w.heap.size w w36) := ⟨by rw [← hq_]; exact (by repeat (first | (with_reducible first | exact HB.out | apply below_alloc | apply pw_below_drewN | apply below_drew1) | exact HB.out))⟩; clear HB hq_; have HB := n0_; clear n0_))
                                  have n0_ := Aside0.mk (below_drew1 HB.out)
                                  clear HB
                                  have HB := n0_
                                  clear n0_
                                  refine start_ (n := 13) (S := fun w' => True) (ds := []) #[false, false, false, false, false, false, false, false, false, false, false, false, false] (by kernel_rfl) rfl rfl trivial (fun hHeld => ?_); refine with_tabW wageofficelaw23_DigestOneByte.tab7 wageofficelaw23_DigestOneByte.bits7 (fun HT_ HW_ => ?_)
                                  generalize w36.drew = w37 at HB hHeld ⊢
                                  refine pure_ (i := 0) (N := some 32) (v := ?_) (a' := ?_) #[true, false, false, false, false, false, false, false, false, false, false, false, false] rfl rfl (any_of HT_.out (by kernel_rfl)) (fun _ _ _ h => h) (Or.inl ⟨by rfl, ?_⟩) ?_ ?_
                                  rotate_left
                                  · intro w'
                                    go_simp
                                    with_reducible rfl
                                  rotate_left
                                  · simp only [Act.put, List.setIfInBounds_toArray, List.set_cons_zero, List.set_cons_succ, i64_w, i32_w]
                                    rfl
                                  refine pure_ (i := 1) (N := some 33) (v := ?_) (a' := ?_) #[true, true, false, false, false, false, false, false, false, false, false, false, false] rfl rfl (any_of HT_.out (by kernel_rfl)) (fun _ _ _ h => h) (Or.inl ⟨by rfl, ?_⟩) ?_ ?_
                                  rotate_left
                                  · intro w'
                                    go_simp
                                    with_reducible rfl
                                  rotate_left
                                  · simp only [Act.put, List.setIfInBounds_toArray, List.set_cons_zero, List.set_cons_succ, i64_w, i32_w]
                                    rfl
                                  refine pure_ (i := 2) (N := some 34) (v := ?_) (a' := ?_) #[true, true, true, false, false, false, false, false, false, false, false, false, false] rfl rfl (any_of HT_.out (by kernel_rfl)) (fun _ _ _ h => h) (Or.inl ⟨by rfl, ?_⟩) ?_ ?_
                                  rotate_left
                                  · intro w'
                                    go_simp
                                    with_reducible rfl
                                  rotate_left
                                  · simp only [Act.put, List.setIfInBounds_toArray, List.set_cons_zero, List.set_cons_succ, i64_w, i32_w]
                                    rfl
                                  refine pure_ (i := 3) (N := some 35) (v := ?_) (a' := ?_) #[true, true, true, true, false, false, false, false, false, false, false, false, false] rfl rfl (any_of HT_.out (by kernel_rfl)) (fun _ _ _ h => h) (Or.inl ⟨by rfl, ?_⟩) ?_ ?_
                                  rotate_left
                                  · intro w'
                                    go_simp
                                    with_reducible rfl
                                  rotate_left
                                  · simp only [Act.put, List.setIfInBounds_toArray, List.set_cons_zero, List.set_cons_succ, i64_w, i32_w]
                                    rfl
                                  refine pure_ (i := 7) (N := some 39) (v := ?_) (a' := ?_) #[true, true, true, true, false, false, false, true, false, false, false, false, false] rfl rfl (any_of HT_.out (by kernel_rfl)) (fun _ _ _ h => h) (Or.inl ⟨by rfl, ?_⟩) ?_ ?_
                                  rotate_left
                                  · intro w'
                                    go_simp
                                    with_reducible rfl
                                  rotate_left
                                  · simp only [Act.put, List.setIfInBounds_toArray, List.set_cons_zero, List.set_cons_succ, i64_w, i32_w]
                                    rfl
                                  refine pure_ (i := 8) (N := some 40) (v := ?_) (a' := ?_) #[true, true, true, true, false, false, false, true, true, false, false, false, false] rfl rfl (any_of HT_.out (by kernel_rfl)) (fun _ _ _ h => h) (Or.inl ⟨by rfl, ?_⟩) ?_ ?_
                                  rotate_left
                                  · intro w'
                                    go_simp
                                    with_reducible rfl
                                  rotate_left
                                  · simp only [Act.put, List.setIfInBounds_toArray, List.set_cons_zero, List.set_cons_succ, i64_w, i32_w]
                                    rfl
                                  refine pure_ (i := 9) (N := some 41) (v := ?_) (a' := ?_) #[true, true, true, true, false, false, false, true, true, true, false, false, false] rfl rfl (any_of HT_.out (by kernel_rfl)) (fun _ _ _ h => h) (Or.inl ⟨by rfl, ?_⟩) ?_ ?_
                                  rotate_left
                                  · intro w'
                                    go_simp
                                    with_reducible rfl
                                  rotate_left
                                  · simp only [Act.put, List.setIfInBounds_toArray, List.set_cons_zero, List.set_cons_succ, i64_w, i32_w]
                                    rfl
                                  refine pure_ (i := 10) (N := some 42) (v := ?_) (a' := ?_) #[true, true, true, true, false, false, false, true, true, true, true, false, false] rfl rfl (any_of HT_.out (by kernel_rfl)) (fun _ _ _ h => h) (Or.inl ⟨by rfl, ?_⟩) ?_ ?_
                                  rotate_left
                                  · intro w'
                                    go_simp
                                    with_reducible rfl
                                  rotate_left
                                  · simp only [Act.put, List.setIfInBounds_toArray, List.set_cons_zero, List.set_cons_succ, i64_w, i32_w]
                                    rfl
                                  refine one_ (i := 4) (N := some 36) #[true, true, true, true, true, false, false, true, true, true, true, false, false] rfl rfl (one_of HT_.out (by kernel_rfl)) (by decide) (fun K hK => ?_)
                                  refine Kd.R_lit_step (Kd.int .u8) _ 5 ?hg (N := 36) ?hd (xs := ([a2] : List Int)) (inner := [.int .u8 a2]) (ok := fun _ => True) (okp := fun _ => True) ?hr ?hp (fun _ hk => hk) trivial (Below.refl _ _) (Nat.le_refl _) (by simp) ?_; (case hd => rfl); (case hg => rfl); (case hr => first | (go_simp; done) | (go_simp; rfl)); (case hp => exact (Reps.one (show Kd.M (Kd.int .u8) _ _ _ a2 [.int .u8 a2] from rfl) (Reps.none _ _)))
                                  intro v136 w38 ho39 hb hg_ hnew_
                                  clear hg_ hnew_
                                  (first | rw [← Ny135.out] at ho39 | (simp only [Int.reduceToNat] at ho39; rw [← Ny135.out] at ho39))
                                  have n0_ := Aside0.mk (Kd.R_lower ho39 (below_size (by repeat (first | (with_reducible first | exact HB.out | apply below_alloc | apply pw_below_drewN | apply below_drew1) | exact HB.out))))
                                  have n1_ := Aside0.mk (below_step (by repeat (first | (with_reducible first | exact HB.out | apply below_alloc | apply pw_below_drewN | apply below_drew1) | exact HB.out)) hb)
                                  clear HB
                                  have HO137 := n0_
                                  have HB := n1_
                                  clear n0_ n1_
                                  clear hb ho39
                                  refine hK.out _ _ trivial (fun hHeld => ?_)
                                  clear hK K
                                  refine norm_ (a' := ?_) ?_ ?_
                                  rotate_left
                                  · show Act.put _ (some 36) _ = _
                                    simp only [Act.put, List.setIfInBounds_toArray, List.set_cons_zero, List.set_cons_succ, i64_w, i32_w]
                                    rfl
                                  refine one_ (i := 5) (N := some 37) #[true, true, true, true, true, true, false, true, true, true, true, false, false] rfl rfl (one_of HT_.out (by kernel_rfl)) (by decide) (fun K hK => ?_)
                                  have hcv40 := own_string (P := Tryd.prog) Tryd.underlying33 Tryd.underlying5 Tryd.underlying9 (Kd.own_of_R HO137.out)
                                  refine value_ (w1 := ?_) (v := ?_) (by rfl) rfl ?_ ?_
                                  rotate_left 2
                                  · go_simp
                                    constructor
                                    · rfl
                                    · rfl
                                  clear hcv40
                                  refine hK.out _ _ trivial (fun hHeld => ?_)
                                  clear hK K
                                  refine norm_ (a' := ?_) ?_ ?_
                                  rotate_left
                                  · show Act.put _ (some 37) _ = _
                                    simp only [Act.put, List.setIfInBounds_toArray, List.set_cons_zero, List.set_cons_succ, i64_w, i32_w]
                                    rfl
                                  refine pure_ (i := 6) (N := some 38) (v := ?_) (a' := ?_) #[true, true, true, true, true, true, true, true, true, true, true, false, false] rfl rfl (any_of HT_.out (by kernel_rfl)) (fun _ _ _ h => h) (Or.inl ⟨by rfl, ?_⟩) ?_ ?_
                                  rotate_left
                                  · intro w'
                                    go_simp
                                    with_reducible rfl
                                  rotate_left
                                  · simp only [Act.put, List.setIfInBounds_toArray, List.set_cons_zero, List.set_cons_succ, i64_w, i32_w]
                                    rfl
                                  refine pure_ (i := 11) (N := some 43) (v := ?_) (a' := ?_) #[true, true, true, true, true, true, true, true, true, true, true, true, false] rfl rfl (any_of HT_.out (by kernel_rfl)) (fun _ _ _ h => h) (Or.inl ⟨by rfl, ?_⟩) ?_ ?_
                                  rotate_left
                                  · intro w'
                                    go_simp
                                    with_reducible rfl
                                  rotate_left
                                  · simp only [Act.put, List.setIfInBounds_toArray, List.set_cons_zero, List.set_cons_succ, i64_w, i32_w]
                                    rfl
                                  refine pure_ (i := 12) (N := some 11) (v := ?_) (a' := ?_) #[true, true, true, true, true, true, true, true, true, true, true, true, true] rfl rfl (any_of HT_.out (by kernel_rfl)) (fun _ _ _ h => h) (Or.inl ⟨by rfl, ?_⟩) ?_ ?_
                                  rotate_left
                                  · intro w'
                                    go_simp
                                    with_reducible rfl
                                  rotate_left
                                  · simp only [Act.put, List.setIfInBounds_toArray, List.set_cons_zero, List.set_cons_succ, i64_w, i32_w]
                                    rfl
                                  refine done_ (done_of HT_.out (by kernel_rfl)) ?_
                                  have p27 : 0 ≤ (t134 : Int) := of_decide_eq_true (by first | (with_reducible assumption) | assumption)
                                  have q27 : t134 < (js9.size : Int) := of_decide_eq_true (by first | (with_reducible assumption) | assumption)
                                  have hx27 := bt_at js9 t134
                                  replace p27 := eq_true p27
                                  replace q27 := eq_true q27
                                  try go_wp2_with (first | (go_at_call 12; (with_reducible refine (digest_Sum.calls js9 t138 _ A29.out).mono ?_); rintro e w41 ⟨rfl, hb⟩; have n0_ := Aside0.mk (Kd.R_below (by (with_reducible repeat (first | apply Kd.R_alloc | apply Kd.R_drewN | apply Kd.R_drew)); exact HO137.out) hb); have n1_ := Aside0.mk (below_step (by repeat (first | (with_reducible first | exact HB.out | apply below_alloc | apply pw_below_drewN | apply below_drew1) | exact HB.out)) hb); clear HO137; clear HB; have HO137 := n0_; have HB := n1_; clear n0_ n1_; (try clear hb); (try clear hb2); (try clear hk); (try clear hi)) | (go_at_call 12; (with_reducible refine (digest_Sum.calls ((js19 ++ (strOfNums y135)) ++ js24) t139 _ A30.out).mono ?_); rintro e w42 ⟨rfl, hb⟩; have n0_ := Aside0.mk (Kd.R_below (by (with_reducible repeat (first | apply Kd.R_alloc | apply Kd.R_drewN | apply Kd.R_drew)); exact HO137.out) hb); have n1_ := Aside0.mk (below_step (by repeat (first | (with_reducible first | exact HB.out | apply below_alloc | apply pw_below_drewN | apply below_drew1) | exact HB.out)) hb); clear HO137; clear HB; have HO137 := n0_; have HB := n1_; clear n0_ n1_; (try clear hb); (try clear hb2); (try clear hk); (try clear hi)) | (go_at_call 12; (with_reducible refine (digest_Sum.calls (js9 ++ js13) t140 _ A33.out).mono ?_); rintro e w43 ⟨rfl, hb⟩; have n0_ := Aside0.mk (Kd.R_below (by (with_reducible repeat (first | apply Kd.R_alloc | apply Kd.R_drewN | apply Kd.R_drew)); exact HO137.out) hb); have n1_ := Aside0.mk (below_step (by repeat (first | (with_reducible first | exact HB.out | apply below_alloc | apply pw_below_drewN | apply below_drew1) | exact HB.out)) hb); clear HO137; clear HB; have HO137 := n0_; have HB := n1_; clear n0_ n1_; (try clear hb); (try clear hb2); (try clear hk); (try clear hi)) | (go_at_call 12; (with_reducible refine (digest_Sum.calls (((js19 ++ (strOfNums y135)) ++ js24) ++ js13) t141 _ A35.out).mono ?_); rintro e w44 ⟨rfl, hb⟩; have n0_ := Aside0.mk (Kd.R_below (by (with_reducible repeat (first | apply Kd.R_alloc | apply Kd.R_drewN | apply Kd.R_drew)); exact HO137.out) hb); have n1_ := Aside0.mk (below_step (by repeat (first | (with_reducible first | exact HB.out | apply below_alloc | apply pw_below_drewN | apply below_drew1) | exact HB.out)) hb); clear HO137; clear HB; have HO137 := n0_; have HB := n1_; clear n0_ n1_; (try clear hb); (try clear hb2); (try clear hk); (try clear hi)))
                                  go_ret
                                  exact ⟨by first | rfl | (simp [errW_none, errW_some] <;> rfl) | (simp only [← hji6, ← hjs9, ← hji10, ← hjs13, ← hjs19, ← hji21, ← hjs24]; first | rfl | (simp [errW_none, errW_some] <;> rfl)) | (simp [*, errW_none, errW_some] <;> rfl), by repeat (first | (with_reducible first | exact HB.out | apply below_alloc | apply pw_below_drewN | apply below_drew1) | exact HB.out)⟩
                                · rw [if_neg c34] at H
                                  exact absurd H (by simp)
                              · rw [if_neg c32] at H
                                exact absurd H (by simp)
                            · rw [if_neg c31] at H
                              have c31b0 : ((t138 == t139) == ((bt js9 t134) == a2)) = false := by simpa using c31
                              (try (have c31b1 : decide ((t138 == t139) = ((bt js9 t134) == a2)) = false := by simpa using c31))
                              (try (have c31b2 : ((t138 == t139) == ((bt js9 t134) == a2)) = false := by simpa using c31))
                              (try (have c31b3 : ¬ ((t138 == t139) = ((bt js9 t134) == a2)) := by simpa using c31))
                              clear c31
                              obtain rfl := Option.some.inj H
                              go_enter Tryd.func4, Tryd.ntmps4
                              try go_wp2_with (first | ((with_reducible refine gate_callee (f := 9) rfl ?_); refine goesL_ (some 13) rfl rfl Tryd.func9 (by kernel_rfl) rfl #[] rfl (by (try simp only [List.map_toArray, List.map_cons, List.map_nil]); first | done | rfl | (simp only [List.length_drop, List.length_take]; rfl)) ?_; (with_reducible refine (wageofficelaw23_head.calls k  true _ A5.out (TabHex.below hTHex.out (by repeat (first | (with_reducible first | exact HB.out | exact Below.refl _ _ | apply below_alloc | apply pw_below_drewN | apply below_drew1 | apply below_drew) | exact HB.out)))).mono ?_); rintro e w45 ⟨rfl, hb⟩; refine ⟨_, rfl, ?_⟩; have n0_ := Aside0.mk (below_step (by repeat (first | (with_reducible first | exact HB.out | apply below_alloc | apply pw_below_drewN | apply below_drew1) | exact HB.out)) hb); clear HB; have HB := n0_; clear n0_; (try clear hb); (try clear hb2); (try clear hk); (try clear hi)) | ((with_reducible refine gate_callee (f := 18) rfl ?_); refine goesL_ (some 31) rfl rfl Tryd.func18 (by kernel_rfl) rfl #[.int .i64 a1, .int .i64 (js9.size : Int)] rfl (by (try simp only [List.map_toArray, List.map_cons, List.map_nil]); first | done | rfl | (simp only [List.length_drop, List.length_take]; rfl)) ?_; (with_reducible refine (wageofficelaw23_pick.calls a1 (js9.size : Int) t134 _ A16.out).mono ?_); rintro e w' ⟨rfl, ⟨nd, rfl⟩⟩; refine ⟨_, rfl, ?_⟩))
                              (try (rw [drewN_self w45]; generalize hq_ : World.drewN w45 _ = w45; have n0_ : Aside0 (Below w.heap.size w w45) := ⟨by rw [← hq_]; exact (by repeat (first | (with_reducible first | exact HB.out | apply below_alloc | apply pw_below_drewN | apply below_drew1) | exact HB.out))⟩; clear HB hq_; have HB := n0_; clear n0_))
                              have n0_ := Aside0.mk (below_drew1 HB.out)
                              clear HB
                              have HB := n0_
                              clear n0_
                              refine start_ (n := 13) (S := fun w' => True) (ds := []) #[false, false, false, false, false, false, false, false, false, false, false, false, false] (by kernel_rfl) rfl rfl trivial (fun hHeld => ?_); refine with_tabW wageofficelaw23_DigestOneByte.tab7 wageofficelaw23_DigestOneByte.bits7 (fun HT_ HW_ => ?_)
                              generalize w45.drew = w46 at HB hHeld ⊢
                              refine pure_ (i := 0) (N := some 32) (v := ?_) (a' := ?_) #[true, false, false, false, false, false, false, false, false, false, false, false, false] rfl rfl (any_of HT_.out (by kernel_rfl)) (fun _ _ _ h => h) (Or.inl ⟨by rfl, ?_⟩) ?_ ?_
                              rotate_left
                              · intro w'
                                go_simp
                                with_reducible rfl
                              rotate_left
                              · simp only [Act.put, List.setIfInBounds_toArray, List.set_cons_zero, List.set_cons_succ, i64_w, i32_w]
                                rfl
                              refine pure_ (i := 1) (N := some 33) (v := ?_) (a' := ?_) #[true, true, false, false, false, false, false, false, false, false, false, false, false] rfl rfl (any_of HT_.out (by kernel_rfl)) (fun _ _ _ h => h) (Or.inl ⟨by rfl, ?_⟩) ?_ ?_
                              rotate_left
                              · intro w'
                                go_simp
                                with_reducible rfl
                              rotate_left
                              · simp only [Act.put, List.setIfInBounds_toArray, List.set_cons_zero, List.set_cons_succ, i64_w, i32_w]
                                rfl
                              refine pure_ (i := 2) (N := some 34) (v := ?_) (a' := ?_) #[true, true, true, false, false, false, false, false, false, false, false, false, false] rfl rfl (any_of HT_.out (by kernel_rfl)) (fun _ _ _ h => h) (Or.inl ⟨by rfl, ?_⟩) ?_ ?_
                              rotate_left
                              · intro w'
                                go_simp
                                with_reducible rfl
                              rotate_left
                              · simp only [Act.put, List.setIfInBounds_toArray, List.set_cons_zero, List.set_cons_succ, i64_w, i32_w]
                                rfl
                              refine pure_ (i := 3) (N := some 35) (v := ?_) (a' := ?_) #[true, true, true, true, false, false, false, false, false, false, false, false, false] rfl rfl (any_of HT_.out (by kernel_rfl)) (fun _ _ _ h => h) (Or.inl ⟨by rfl, ?_⟩) ?_ ?_
                              rotate_left
                              · intro w'
                                go_simp
                                with_reducible rfl
                              rotate_left
                              · simp only [Act.put, List.setIfInBounds_toArray, List.set_cons_zero, List.set_cons_succ, i64_w, i32_w]
                                rfl
                              refine pure_ (i := 7) (N := some 39) (v := ?_) (a' := ?_) #[true, true, true, true, false, false, false, true, false, false, false, false, false] rfl rfl (any_of HT_.out (by kernel_rfl)) (fun _ _ _ h => h) (Or.inl ⟨by rfl, ?_⟩) ?_ ?_
                              rotate_left
                              · intro w'
                                go_simp
                                with_reducible rfl
                              rotate_left
                              · simp only [Act.put, List.setIfInBounds_toArray, List.set_cons_zero, List.set_cons_succ, i64_w, i32_w]
                                rfl
                              refine pure_ (i := 8) (N := some 40) (v := ?_) (a' := ?_) #[true, true, true, true, false, false, false, true, true, false, false, false, false] rfl rfl (any_of HT_.out (by kernel_rfl)) (fun _ _ _ h => h) (Or.inl ⟨by rfl, ?_⟩) ?_ ?_
                              rotate_left
                              · intro w'
                                go_simp
                                with_reducible rfl
                              rotate_left
                              · simp only [Act.put, List.setIfInBounds_toArray, List.set_cons_zero, List.set_cons_succ, i64_w, i32_w]
                                rfl
                              refine pure_ (i := 9) (N := some 41) (v := ?_) (a' := ?_) #[true, true, true, true, false, false, false, true, true, true, false, false, false] rfl rfl (any_of HT_.out (by kernel_rfl)) (fun _ _ _ h => h) (Or.inl ⟨by rfl, ?_⟩) ?_ ?_
                              rotate_left
                              · intro w'
                                go_simp
                                with_reducible rfl
                              rotate_left
                              · simp only [Act.put, List.setIfInBounds_toArray, List.set_cons_zero, List.set_cons_succ, i64_w, i32_w]
                                rfl
                              refine pure_ (i := 10) (N := some 42) (v := ?_) (a' := ?_) #[true, true, true, true, false, false, false, true, true, true, true, false, false] rfl rfl (any_of HT_.out (by kernel_rfl)) (fun _ _ _ h => h) (Or.inl ⟨by rfl, ?_⟩) ?_ ?_
                              rotate_left
                              · intro w'
                                go_simp
                                with_reducible rfl
                              rotate_left
                              · simp only [Act.put, List.setIfInBounds_toArray, List.set_cons_zero, List.set_cons_succ, i64_w, i32_w]
                                rfl
                              refine one_ (i := 4) (N := some 36) #[true, true, true, true, true, false, false, true, true, true, true, false, false] rfl rfl (one_of HT_.out (by kernel_rfl)) (by decide) (fun K hK => ?_)
                              refine Kd.R_lit_step (Kd.int .u8) _ 5 ?hg (N := 36) ?hd (xs := ([a2] : List Int)) (inner := [.int .u8 a2]) (ok := fun _ => True) (okp := fun _ => True) ?hr ?hp (fun _ hk => hk) trivial (Below.refl _ _) (Nat.le_refl _) (by simp) ?_; (case hd => rfl); (case hg => rfl); (case hr => first | (go_simp; done) | (go_simp; rfl)); (case hp => exact (Reps.one (show Kd.M (Kd.int .u8) _ _ _ a2 [.int .u8 a2] from rfl) (Reps.none _ _)))
                              intro v136 w47 ho48 hb hg_ hnew_
                              clear hg_ hnew_
                              (first | rw [← Ny135.out] at ho48 | (simp only [Int.reduceToNat] at ho48; rw [← Ny135.out] at ho48))
                              have n0_ := Aside0.mk (Kd.R_lower ho48 (below_size (by repeat (first | (with_reducible first | exact HB.out | apply below_alloc | apply pw_below_drewN | apply below_drew1) | exact HB.out))))
                              have n1_ := Aside0.mk (below_step (by repeat (first | (with_reducible first | exact HB.out | apply below_alloc | apply pw_below_drewN | apply below_drew1) | exact HB.out)) hb)
                              clear HB
                              have HO137 := n0_
                              have HB := n1_
                              clear n0_ n1_
                              clear hb ho48
                              refine hK.out _ _ trivial (fun hHeld => ?_)
                              clear hK K
                              refine norm_ (a' := ?_) ?_ ?_
                              rotate_left
                              · show Act.put _ (some 36) _ = _
                                simp only [Act.put, List.setIfInBounds_toArray, List.set_cons_zero, List.set_cons_succ, i64_w, i32_w]
                                rfl
                              refine one_ (i := 5) (N := some 37) #[true, true, true, true, true, true, false, true, true, true, true, false, false] rfl rfl (one_of HT_.out (by kernel_rfl)) (by decide) (fun K hK => ?_)
                              have hcv49 := own_string (P := Tryd.prog) Tryd.underlying33 Tryd.underlying5 Tryd.underlying9 (Kd.own_of_R HO137.out)
                              refine value_ (w1 := ?_) (v := ?_) (by rfl) rfl ?_ ?_
                              rotate_left 2
                              · go_simp
                                constructor
                                · rfl
                                · rfl
                              clear hcv49
                              refine hK.out _ _ trivial (fun hHeld => ?_)
                              clear hK K
                              refine norm_ (a' := ?_) ?_ ?_
                              rotate_left
                              · show Act.put _ (some 37) _ = _
                                simp only [Act.put, List.setIfInBounds_toArray, List.set_cons_zero, List.set_cons_succ, i64_w, i32_w]
                                rfl
                              refine pure_ (i := 6) (N := some 38) (v := ?_) (a' := ?_) #[true, true, true, true, true, true, true, true, true, true, true, false, false] rfl rfl (any_of HT_.out (by kernel_rfl)) (fun _ _ _ h => h) (Or.inl ⟨by rfl, ?_⟩) ?_ ?_
                              rotate_left
                              · intro w'
                                go_simp
                                with_reducible rfl
                              rotate_left
                              · simp only [Act.put, List.setIfInBounds_toArray, List.set_cons_zero, List.set_cons_succ, i64_w, i32_w]
                                rfl
                              refine pure_ (i := 11) (N := some 43) (v := ?_) (a' := ?_) #[true, true, true, true, true, true, true, true, true, true, true, true, false] rfl rfl (any_of HT_.out (by kernel_rfl)) (fun _ _ _ h => h) (Or.inl ⟨by rfl, ?_⟩) ?_ ?_
                              rotate_left
                              · intro w'
                                go_simp
                                with_reducible rfl
                              rotate_left
                              · simp only [Act.put, List.setIfInBounds_toArray, List.set_cons_zero, List.set_cons_succ, i64_w, i32_w]
                                rfl
                              refine pure_ (i := 12) (N := some 11) (v := ?_) (a' := ?_) #[true, true, true, true, true, true, true, true, true, true, true, true, true] rfl rfl (any_of HT_.out (by kernel_rfl)) (fun _ _ _ h => h) (Or.inl ⟨by rfl, ?_⟩) ?_ ?_
                              rotate_left
                              · intro w'
                                go_simp
                                with_reducible rfl
                              rotate_left
                              · simp only [Act.put, List.setIfInBounds_toArray, List.set_cons_zero, List.set_cons_succ, i64_w, i32_w]
                                rfl
                              refine done_ (done_of HT_.out (by kernel_rfl)) ?_
                              have p27 : 0 ≤ (t134 : Int) := of_decide_eq_true (by first | (with_reducible assumption) | assumption)
                              have q27 : t134 < (js9.size : Int) := of_decide_eq_true (by first | (with_reducible assumption) | assumption)
                              have hx27 := bt_at js9 t134
                              replace p27 := eq_true p27
                              replace q27 := eq_true q27
                              try go_wp2_with (first | (go_at_call 12; (with_reducible refine (digest_Sum.calls js9 t138 _ A29.out).mono ?_); rintro e w50 ⟨rfl, hb⟩; have n0_ := Aside0.mk (Kd.R_below (by (with_reducible repeat (first | apply Kd.R_alloc | apply Kd.R_drewN | apply Kd.R_drew)); exact HO137.out) hb); have n1_ := Aside0.mk (below_step (by repeat (first | (with_reducible first | exact HB.out | apply below_alloc | apply pw_below_drewN | apply below_drew1) | exact HB.out)) hb); clear HO137; clear HB; have HO137 := n0_; have HB := n1_; clear n0_ n1_; (try clear hb); (try clear hb2); (try clear hk); (try clear hi)) | (go_at_call 12; (with_reducible refine (digest_Sum.calls ((js19 ++ (strOfNums y135)) ++ js24) t139 _ A30.out).mono ?_); rintro e w51 ⟨rfl, hb⟩; have n0_ := Aside0.mk (Kd.R_below (by (with_reducible repeat (first | apply Kd.R_alloc | apply Kd.R_drewN | apply Kd.R_drew)); exact HO137.out) hb); have n1_ := Aside0.mk (below_step (by repeat (first | (with_reducible first | exact HB.out | apply below_alloc | apply pw_below_drewN | apply below_drew1) | exact HB.out)) hb); clear HO137; clear HB; have HO137 := n0_; have HB := n1_; clear n0_ n1_; (try clear hb); (try clear hb2); (try clear hk); (try clear hi)))
                              go_ret
                              exact ⟨by first | rfl | (simp [errW_none, errW_some] <;> rfl) | (simp only [← hji6, ← hjs9, ← hji10, ← hjs13, ← hjs19, ← hji21, ← hjs24]; first | rfl | (simp [errW_none, errW_some] <;> rfl)) | (simp [*, errW_none, errW_some] <;> rfl), by repeat (first | (with_reducible first | exact HB.out | apply below_alloc | apply pw_below_drewN | apply below_drew1) | exact HB.out)⟩
                          · replace c28 := Bool.eq_false_iff.mpr c28
                            subst c28
                            have H1 : (some false) = some r := by rw [if_neg (show ¬ (false = true) by decide)] at H; exact H
                            clear H
                            have H := H1
                            clear H1
                            obtain rfl := Option.some.inj H
                            go_enter Tryd.func4, Tryd.ntmps4
                            try go_wp2_with (first | ((with_reducible refine gate_callee (f := 9) rfl ?_); refine goesL_ (some 13) rfl rfl Tryd.func9 (by kernel_rfl) rfl #[] rfl (by (try simp only [List.map_toArray, List.map_cons, List.map_nil]); first | done | rfl | (simp only [List.length_drop, List.length_take]; rfl)) ?_; (with_reducible refine (wageofficelaw23_head.calls k  false _ A5.out (TabHex.below hTHex.out (by repeat (first | (with_reducible first | exact HB.out | exact Below.refl _ _ | apply below_alloc | apply pw_below_drewN | apply below_drew1 | apply below_drew) | exact HB.out)))).mono ?_); rintro e w52 ⟨rfl, hb⟩; refine ⟨_, rfl, ?_⟩; have n0_ := Aside0.mk (below_step (by repeat (first | (with_reducible first | exact HB.out | apply below_alloc | apply pw_below_drewN | apply below_drew1) | exact HB.out)) hb); clear HB; have HB := n0_; clear n0_; (try clear hb); (try clear hb2); (try clear hk); (try clear hi)) | ((with_reducible refine gate_callee (f := 18) rfl ?_); refine goesL_ (some 31) rfl rfl Tryd.func18 (by kernel_rfl) rfl #[.int .i64 a1, .int .i64 (js9.size : Int)] rfl (by (try simp only [List.map_toArray, List.map_cons, List.map_nil]); first | done | rfl | (simp only [List.length_drop, List.length_take]; rfl)) ?_; (with_reducible refine (wageofficelaw23_pick.calls a1 (js9.size : Int) t134 _ A16.out).mono ?_); rintro e w' ⟨rfl, ⟨nd, rfl⟩⟩; refine ⟨_, rfl, ?_⟩))
                            (try (rw [drewN_self w52]; generalize hq_ : World.drewN w52 _ = w52; have n0_ : Aside0 (Below w.heap.size w w52) := ⟨by rw [← hq_]; exact (by repeat (first | (with_reducible first | exact HB.out | apply below_alloc | apply pw_below_drewN | apply below_drew1) | exact HB.out))⟩; clear HB hq_; have HB := n0_; clear n0_))
                            have n0_ := Aside0.mk (below_drew1 HB.out)
                            clear HB
                            have HB := n0_
                            clear n0_
                            refine start_ (n := 13) (S := fun w' => True) (ds := []) #[false, false, false, false, false, false, false, false, false, false, false, false, false] (by kernel_rfl) rfl rfl trivial (fun hHeld => ?_); refine with_tabW wageofficelaw23_DigestOneByte.tab7 wageofficelaw23_DigestOneByte.bits7 (fun HT_ HW_ => ?_)
                            generalize w52.drew = w53 at HB hHeld ⊢
                            refine pure_ (i := 0) (N := some 32) (v := ?_) (a' := ?_) #[true, false, false, false, false, false, false, false, false, false, false, false, false] rfl rfl (any_of HT_.out (by kernel_rfl)) (fun _ _ _ h => h) (Or.inl ⟨by rfl, ?_⟩) ?_ ?_
                            rotate_left
                            · intro w'
                              go_simp
                              with_reducible rfl
                            rotate_left
                            · simp only [Act.put, List.setIfInBounds_toArray, List.set_cons_zero, List.set_cons_succ, i64_w, i32_w]
                              rfl
                            refine pure_ (i := 1) (N := some 33) (v := ?_) (a' := ?_) #[true, true, false, false, false, false, false, false, false, false, false, false, false] rfl rfl (any_of HT_.out (by kernel_rfl)) (fun _ _ _ h => h) (Or.inl ⟨by rfl, ?_⟩) ?_ ?_
                            rotate_left
                            · intro w'
                              go_simp
                              with_reducible rfl
                            rotate_left
                            · simp only [Act.put, List.setIfInBounds_toArray, List.set_cons_zero, List.set_cons_succ, i64_w, i32_w]
                              rfl
                            refine pure_ (i := 2) (N := some 34) (v := ?_) (a' := ?_) #[true, true, true, false, false, false, false, false, false, false, false, false, false] rfl rfl (any_of HT_.out (by kernel_rfl)) (fun _ _ _ h => h) (Or.inl ⟨by rfl, ?_⟩) ?_ ?_
                            rotate_left
                            · intro w'
                              go_simp
                              with_reducible rfl
                            rotate_left
                            · simp only [Act.put, List.setIfInBounds_toArray, List.set_cons_zero, List.set_cons_succ, i64_w, i32_w]
                              rfl
                            refine pure_ (i := 3) (N := some 35) (v := ?_) (a' := ?_) #[true, true, true, true, false, false, false, false, false, false, false, false, false] rfl rfl (any_of HT_.out (by kernel_rfl)) (fun _ _ _ h => h) (Or.inl ⟨by rfl, ?_⟩) ?_ ?_
                            rotate_left
                            · intro w'
                              go_simp
                              with_reducible rfl
                            rotate_left
                            · simp only [Act.put, List.setIfInBounds_toArray, List.set_cons_zero, List.set_cons_succ, i64_w, i32_w]
                              rfl
                            refine pure_ (i := 7) (N := some 39) (v := ?_) (a' := ?_) #[true, true, true, true, false, false, false, true, false, false, false, false, false] rfl rfl (any_of HT_.out (by kernel_rfl)) (fun _ _ _ h => h) (Or.inl ⟨by rfl, ?_⟩) ?_ ?_
                            rotate_left
                            · intro w'
                              go_simp
                              with_reducible rfl
                            rotate_left
                            · simp only [Act.put, List.setIfInBounds_toArray, List.set_cons_zero, List.set_cons_succ, i64_w, i32_w]
                              rfl
                            refine pure_ (i := 8) (N := some 40) (v := ?_) (a' := ?_) #[true, true, true, true, false, false, false, true, true, false, false, false, false] rfl rfl (any_of HT_.out (by kernel_rfl)) (fun _ _ _ h => h) (Or.inl ⟨by rfl, ?_⟩) ?_ ?_
                            rotate_left
                            · intro w'
                              go_simp
                              with_reducible rfl
                            rotate_left
                            · simp only [Act.put, List.setIfInBounds_toArray, List.set_cons_zero, List.set_cons_succ, i64_w, i32_w]
                              rfl
                            refine pure_ (i := 9) (N := some 41) (v := ?_) (a' := ?_) #[true, true, true, true, false, false, false, true, true, true, false, false, false] rfl rfl (any_of HT_.out (by kernel_rfl)) (fun _ _ _ h => h) (Or.inl ⟨by rfl, ?_⟩) ?_ ?_
                            rotate_left
                            · intro w'
                              go_simp
                              with_reducible rfl
                            rotate_left
                            · simp only [Act.put, List.setIfInBounds_toArray, List.set_cons_zero, List.set_cons_succ, i64_w, i32_w]
                              rfl
                            refine pure_ (i := 10) (N := some 42) (v := ?_) (a' := ?_) #[true, true, true, true, false, false, false, true, true, true, true, false, false] rfl rfl (any_of HT_.out (by kernel_rfl)) (fun _ _ _ h => h) (Or.inl ⟨by rfl, ?_⟩) ?_ ?_
                            rotate_left
                            · intro w'
                              go_simp
                              with_reducible rfl
                            rotate_left
                            · simp only [Act.put, List.setIfInBounds_toArray, List.set_cons_zero, List.set_cons_succ, i64_w, i32_w]
                              rfl
                            refine one_ (i := 4) (N := some 36) #[true, true, true, true, true, false, false, true, true, true, true, false, false] rfl rfl (one_of HT_.out (by kernel_rfl)) (by decide) (fun K hK => ?_)
                            refine Kd.R_lit_step (Kd.int .u8) _ 5 ?hg (N := 36) ?hd (xs := ([a2] : List Int)) (inner := [.int .u8 a2]) (ok := fun _ => True) (okp := fun _ => True) ?hr ?hp (fun _ hk => hk) trivial (Below.refl _ _) (Nat.le_refl _) (by simp) ?_; (case hd => rfl); (case hg => rfl); (case hr => first | (go_simp; done) | (go_simp; rfl)); (case hp => exact (Reps.one (show Kd.M (Kd.int .u8) _ _ _ a2 [.int .u8 a2] from rfl) (Reps.none _ _)))
                            intro v136 w54 ho55 hb hg_ hnew_
                            clear hg_ hnew_
                            (first | rw [← Ny135.out] at ho55 | (simp only [Int.reduceToNat] at ho55; rw [← Ny135.out] at ho55))
                            have n0_ := Aside0.mk (Kd.R_lower ho55 (below_size (by repeat (first | (with_reducible first | exact HB.out | apply below_alloc | apply pw_below_drewN | apply below_drew1) | exact HB.out))))
                            have n1_ := Aside0.mk (below_step (by repeat (first | (with_reducible first | exact HB.out | apply below_alloc | apply pw_below_drewN | apply below_drew1) | exact HB.out)) hb)
                            clear HB
                            have HO137 := n0_
                            have HB := n1_
                            clear n0_ n1_
                            clear hb ho55
                            refine hK.out _ _ trivial (fun hHeld => ?_)
                            clear hK K
                            refine norm_ (a' := ?_) ?_ ?_
                            rotate_left
                            · show Act.put _ (some 36) _ = _
                              simp only [Act.put, List.setIfInBounds_toArray, List.set_cons_zero, List.set_cons_succ, i64_w, i32_w]
                              rfl
                            refine one_ (i := 5) (N := some 37) #[true, true, true, true, true, true, false, true, true, true, true, false, false] rfl rfl (one_of HT_.out (by kernel_rfl)) (by decide) (fun K hK => ?_)
                            have hcv56 := own_string (P := Tryd.prog) Tryd.underlying33 Tryd.underlying5 Tryd.underlying9 (Kd.own_of_R HO137.out)
                            refine value_ (w1 := ?_) (v := ?_) (by rfl) rfl ?_ ?_
                            rotate_left 2
                            · go_simp
                              constructor
                              · rfl
                              · rfl
                            clear hcv56
                            refine hK.out _ _ trivial (fun hHeld => ?_)
                            clear hK K
                            refine norm_ (a' := ?_) ?_ ?_
                            rotate_left
                            · show Act.put _ (some 37) _ = _
                              simp only [Act.put, List.setIfInBounds_toArray, List.set_cons_zero, List.set_cons_succ, i64_w, i32_w]
                              rfl
                            refine pure_ (i := 6) (N := some 38) (v := ?_) (a' := ?_) #[true, true, true, true, true, true, true, true, true, true, true, false, false] rfl rfl (any_of HT_.out (by kernel_rfl)) (fun _ _ _ h => h) (Or.inl ⟨by rfl, ?_⟩) ?_ ?_
                            rotate_left
                            · intro w'
                              go_simp
                              with_reducible rfl
                            rotate_left
                            · simp only [Act.put, List.setIfInBounds_toArray, List.set_cons_zero, List.set_cons_succ, i64_w, i32_w]
                              rfl
                            refine pure_ (i := 11) (N := some 43) (v := ?_) (a' := ?_) #[true, true, true, true, true, true, true, true, true, true, true, true, false] rfl rfl (any_of HT_.out (by kernel_rfl)) (fun _ _ _ h => h) (Or.inl ⟨by rfl, ?_⟩) ?_ ?_
                            rotate_left
                            · intro w'
                              go_simp
                              with_reducible rfl
                            rotate_left
                            · simp only [Act.put, List.setIfInBounds_toArray, List.set_cons_zero, List.set_cons_succ, i64_w, i32_w]
                              rfl
                            refine pure_ (i := 12) (N := some 11) (v := ?_) (a' := ?_) #[true, true, true, true, true, true, true, true, true, true, true, true, true] rfl rfl (any_of HT_.out (by kernel_rfl)) (fun _ _ _ h => h) (Or.inl ⟨by rfl, ?_⟩) ?_ ?_
                            rotate_left
                            · intro w'
                              go_simp
                              with_reducible rfl
                            rotate_left
                            · simp only [Act.put, List.setIfInBounds_toArray, List.set_cons_zero, List.set_cons_succ, i64_w, i32_w]
                              rfl
                            refine done_ (done_of HT_.out (by kernel_rfl)) ?_
                            have p27 : 0 ≤ (t134 : Int) := of_decide_eq_true (by first | (with_reducible assumption) | assumption)
                            have q27 : t134 < (js9.size : Int) := of_decide_eq_true (by first | (with_reducible assumption) | assumption)
                            have hx27 := bt_at js9 t134
                            replace p27 := eq_true p27
                            replace q27 := eq_true q27
                            try go_wp2
                            go_ret
                            exact ⟨by first | rfl | (simp [errW_none, errW_some] <;> rfl) | (simp only [← hji6, ← hjs9, ← hji10, ← hjs13, ← hjs19, ← hji21, ← hjs24]; first | rfl | (simp [errW_none, errW_some] <;> rfl)) | (simp [*, errW_none, errW_some] <;> rfl), by repeat (first | (with_reducible first | exact HB.out | apply below_alloc | apply pw_below_drewN | apply below_drew1) | exact HB.out)⟩
                        · rw [if_neg c26] at H
                          exact absurd H (by simp)
                      · rw [if_neg c25] at H
                        exact absurd H (by simp)
                    · rw [if_neg c23] at H
                      exact absurd H (by simp)
                  · rw [if_neg c22] at H
                    exact absurd H (by simp)
                · rw [if_neg c20] at H
                  exact absurd H (by simp)
              · rw [if_neg c18] at H
                exact absurd H (by simp)
            · rw [if_neg c17] at H
              exact absurd H (by simp)
        · rw [if_neg c12] at H
          exact absurd H (by simp)
      · rw [if_neg c11] at H
        exact absurd H (by simp)
    · rw [if_neg c8] at H
      exact absurd H (by simp)
  · rw [if_neg c7] at H
    exact absurd H (by simp)

/-- THE ONE PURE STATEMENT of wageofficelaw23_DigestOneByte: yours. -/
def wageofficelaw23_DigestOneByte.Pure : Prop := ∀ (a0 : ByteArray) (a1 : Int) (a2 : Int) (a3 : ByteArray), a0.size ≤ 140737488351232 → (Lit.int .i64 a1).wf = true → (Lit.int .u8 a2).wf = true → a3.size ≤ 140737488351232 → ∃ k, wageofficelaw23_DigestOneByte.f k a0 a1 a2 a3 = some true
end Go.Proofs.YtjjfbcpfmdbblaaDoor.PAll
