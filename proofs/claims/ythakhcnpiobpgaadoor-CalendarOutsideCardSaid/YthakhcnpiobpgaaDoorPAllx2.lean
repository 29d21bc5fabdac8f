-- Written by myprint.py over the kit's print.py (a printed text of this session's own make).
import Derived.Test.YthakhcnpiobpgaaDoorPAllx0
import Derived.Test.YthakhcnpiobpgaaDoorPAllx1
namespace Go.Proofs.YthakhcnpiobpgaaDoor.PAll
open Go.Proofs.YthakhcnpiobpgaaDoor.Stub Go.Proofs.YthakhcnpiobpgaaDoor.CalA
open Go.RowKit Go.Proofs.YthakhcnpiobpgaaDoorW.PrintWords Go.Proofs.YthakhcnpiobpgaaDoorW.PrintLast Go.Proofs.YthakhcnpiobpgaaDoorW.PrintMore
attribute [local go_sem] max2_int min2_int max_two min_two max_three min_three max_four min_four   -- for this text's walks alone
set_option linter.unusedVariables false
set_option linter.unusedSimpArgs false

/-! ### wageofficelaw02_head: function 9 -/
mutual
def wageofficelaw02_head.j0 : Nat → Int → Int → Int → Int → Int → Int → Int → Int → Bool → Option (Bool)
  | 0, _, _, _, _, _, _, _, _, _ => none
  | k + 1, x1, x3, x5, x9, x10, x11, x12, x14, x20 => if x20 = true then (if x1 = 0 then (if x3 = 60 then (if x5 = 8825 then (if x9 = 2001 then (if x10 = 1 then (if x11 = 1 then (if x12 = 59 then (wageofficelaw02_head.j1 k (x14 == 59)) else (wageofficelaw02_head.j1 k false)) else (wageofficelaw02_head.j1 k false)) else (wageofficelaw02_head.j1 k false)) else (wageofficelaw02_head.j1 k false)) else (wageofficelaw02_head.j1 k false)) else (wageofficelaw02_head.j1 k false)) else (wageofficelaw02_head.j1 k false)) else (wageofficelaw02_head.j1 k false)
def wageofficelaw02_head.j1 : Nat → Bool → Option (Bool)
  | 0, _ => none
  | k + 1, x20 => if x20 = true then ((calendar_Weekday.f 0).bind fun t140 => (if t140 = 6 then ((calendar_Weekday.f 2).bind fun t141 => (if t141 = 1 then ((calendar_Month.f 60).bind fun t142 => (if t142 = 2 then ((calendar_First.f 2).bind fun t143 => (if t143 = 60 then ((calendar_Length.f 1).bind fun t144 => (if t144 = 29 then ((calendar_Text.f k 59).bind fun t145 => (some (t145.toList == ([50, 48, 48, 48, 45, 48, 50, 45, 50, 57] : List UInt8)))) else (some false))) else (some false))) else (some false))) else (some false))) else (some false))) else (some false)
end
def wageofficelaw02_head.f (k : Nat)  : Option (Bool) := (calendar_Day.f 2000 1 1).bind fun bt121 => ((calendar_Day.f 2000 3 1).bind fun bt123 => ((calendar_Day.f 2024 2 29).bind fun bt125 => ((calendar_Day.f 2023 2 29).bind fun bt127 => ((calendar_Date.f 366).bind fun bt129 => ((calendar_Later.f k 30 1).bind fun bt132 => ((calendar_Parse.f (⟨#[50, 48, 48, 48, 45, 48, 50, 45, 50, 57]⟩ : ByteArray)).bind fun bt134 => ((calendar_Parse.f (⟨#[50, 48, 48, 48, 45, 50, 45, 50, 57]⟩ : ByteArray)).bind fun bt136 => ((calendar_Later.f k 0 (-1)).bind fun bt138 => (if bt121.2 = 0 then (if bt123.2 = 0 then (if bt125.2 = 0 then (if bt127.2 = 21 then (if bt132.2 = 0 then (if bt134.2 = 0 then (if bt136.2 = 12 then (wageofficelaw02_head.j0 k bt121.1 bt123.1 bt125.1 bt129.1 bt129.2.1 bt129.2.2 bt132.1 bt134.1 (bt138.2 == 21)) else (wageofficelaw02_head.j0 k bt121.1 bt123.1 bt125.1 bt129.1 bt129.2.1 bt129.2.2 bt132.1 bt134.1 false)) else (wageofficelaw02_head.j0 k bt121.1 bt123.1 bt125.1 bt129.1 bt129.2.1 bt129.2.2 bt132.1 bt134.1 false)) else (wageofficelaw02_head.j0 k bt121.1 bt123.1 bt125.1 bt129.1 bt129.2.1 bt129.2.2 bt132.1 bt134.1 false)) else (wageofficelaw02_head.j0 k bt121.1 bt123.1 bt125.1 bt129.1 bt129.2.1 bt129.2.2 bt132.1 bt134.1 false)) else (wageofficelaw02_head.j0 k bt121.1 bt123.1 bt125.1 bt129.1 bt129.2.1 bt129.2.2 bt132.1 bt134.1 false)) else (wageofficelaw02_head.j0 k bt121.1 bt123.1 bt125.1 bt129.1 bt129.2.1 bt129.2.2 bt132.1 bt134.1 false)) else (wageofficelaw02_head.j0 k bt121.1 bt123.1 bt125.1 bt129.1 bt129.2.1 bt129.2.2 bt132.1 bt134.1 false))))))))))
theorem wageofficelaw02_head.mono_l : ∀ k, (∀ y0 y1 y2 y3 y4 y5 y6 y7 y8, LeO (wageofficelaw02_head.j0 k y0 y1 y2 y3 y4 y5 y6 y7 y8) (wageofficelaw02_head.j0 (k + 1) y0 y1 y2 y3 y4 y5 y6 y7 y8)) ∧ (∀ y0, LeO (wageofficelaw02_head.j1 k y0) (wageofficelaw02_head.j1 (k + 1) y0))
  | 0 => ⟨fun _ _ _ _ _ _ _ _ _ r h => by simp [wageofficelaw02_head.j0] at h, fun _ r h => by simp [wageofficelaw02_head.j1] at h⟩
  | k + 1 => by
    obtain ⟨ih0, ih1⟩ := wageofficelaw02_head.mono_l k
    refine ⟨?_, ?_⟩
    · intro y0 y1 y2 y3 y4 y5 y6 y7 y8
      unfold wageofficelaw02_head.j0
      repeat' first
      | (with_reducible exact ih0 _ _ _ _ _ _ _ _ _)
      | (with_reducible exact ih1 _)
      | (with_reducible exact calendar_Later.mono _ _ _)
      | (with_reducible exact calendar_Text.mono _ _)
      | (with_reducible exact LeO.refl _)
      | (with_reducible exact LeO.none _)
      | (with_reducible refine LeO.ite ?_ ?_)
      | (with_reducible refine LeO.bind ?_ (fun _ => ?_))
      | exact ih0 _ _ _ _ _ _ _ _ _
      | exact ih1 _
      | exact calendar_Later.mono _ _ _
      | exact calendar_Text.mono _ _
      | exact LeO.none _
      | refine LeO.ite ?_ ?_
      | refine LeO.bind ?_ (fun _ => ?_)
    · intro y0
      unfold wageofficelaw02_head.j1
      repeat' first
      | (with_reducible exact ih0 _ _ _ _ _ _ _ _ _)
      | (with_reducible exact ih1 _)
      | (with_reducible exact calendar_Later.mono _ _ _)
      | (with_reducible exact calendar_Text.mono _ _)
      | (with_reducible exact LeO.refl _)
      | (with_reducible exact LeO.none _)
      | (with_reducible refine LeO.ite ?_ ?_)
      | (with_reducible refine LeO.bind ?_ (fun _ => ?_))
      | exact ih0 _ _ _ _ _ _ _ _ _
      | exact ih1 _
      | exact calendar_Later.mono _ _ _
      | exact calendar_Text.mono _ _
      | exact LeO.none _
      | refine LeO.ite ?_ ?_
      | refine LeO.bind ?_ (fun _ => ?_)
theorem wageofficelaw02_head.mono : ∀ k, LeO (wageofficelaw02_head.f k ) (wageofficelaw02_head.f (k + 1) ) := by
  intro  k
  obtain ⟨ih0, ih1⟩ := wageofficelaw02_head.mono_l k
  unfold wageofficelaw02_head.f
  repeat' first
      | (with_reducible exact ih0 _ _ _ _ _ _ _ _ _)
      | (with_reducible exact ih1 _)
      | (with_reducible exact calendar_Later.mono _ _ _)
      | (with_reducible exact calendar_Text.mono _ _)
      | (with_reducible exact LeO.refl _)
      | (with_reducible exact LeO.none _)
      | (with_reducible refine LeO.ite ?_ ?_)
      | (with_reducible refine LeO.bind ?_ (fun _ => ?_))
      | exact ih0 _ _ _ _ _ _ _ _ _
      | exact ih1 _
      | exact calendar_Later.mono _ _ _
      | exact calendar_Text.mono _ _
      | exact LeO.none _
      | refine LeO.ite ?_ ?_
      | refine LeO.bind ?_ (fun _ => ?_)
set_option maxHeartbeats 8000000 in
set_option maxRecDepth 100000 in
theorem wageofficelaw02_head.calls (k : Nat)  (r : Bool) (w : World) (h : wageofficelaw02_head.f k  = some r) (hTBefore0 : TabBefore w) :
    Calls Tryd.prog 9 #[] w fun e w' => e = .returned (.bool r) ∧ Below w.heap.size w w' := by
  have hTBefore := Aside0.mk hTBefore0
  clear hTBefore0
  have HB := Aside0.mk (Below.refl w.heap.size w)
  have H : ((calendar_Day.f 2000 1 1).bind fun bt121 => ((calendar_Day.f 2000 3 1).bind fun bt123 => ((calendar_Day.f 2024 2 29).bind fun bt125 => ((calendar_Day.f 2023 2 29).bind fun bt127 => ((calendar_Date.f 366).bind fun bt129 => ((calendar_Later.f k 30 1).bind fun bt132 => ((calendar_Parse.f (⟨#[50, 48, 48, 48, 45, 48, 50, 45, 50, 57]⟩ : ByteArray)).bind fun bt134 => ((calendar_Parse.f (⟨#[50, 48, 48, 48, 45, 50, 45, 50, 57]⟩ : ByteArray)).bind fun bt136 => ((calendar_Later.f k 0 (-1)).bind fun bt138 => (if bt121.2 = 0 then (if bt123.2 = 0 then (if bt125.2 = 0 then (if bt127.2 = 21 then (if bt132.2 = 0 then (if bt134.2 = 0 then (if bt136.2 = 12 then (wageofficelaw02_head.j0 k bt121.1 bt123.1 bt125.1 bt129.1 bt129.2.1 bt129.2.2 bt132.1 bt134.1 (bt138.2 == 21)) else (wageofficelaw02_head.j0 k bt121.1 bt123.1 bt125.1 bt129.1 bt129.2.1 bt129.2.2 bt132.1 bt134.1 false)) else (wageofficelaw02_head.j0 k bt121.1 bt123.1 bt125.1 bt129.1 bt129.2.1 bt129.2.2 bt132.1 bt134.1 false)) else (wageofficelaw02_head.j0 k bt121.1 bt123.1 bt125.1 bt129.1 bt129.2.1 bt129.2.2 bt132.1 bt134.1 false)) else (wageofficelaw02_head.j0 k bt121.1 bt123.1 bt125.1 bt129.1 bt129.2.1 bt129.2.2 bt132.1 bt134.1 false)) else (wageofficelaw02_head.j0 k bt121.1 bt123.1 bt125.1 bt129.1 bt129.2.1 bt129.2.2 bt132.1 bt134.1 false)) else (wageofficelaw02_head.j0 k bt121.1 bt123.1 bt125.1 bt129.1 bt129.2.1 bt129.2.2 bt132.1 bt134.1 false)) else (wageofficelaw02_head.j0 k bt121.1 bt123.1 bt125.1 bt129.1 bt129.2.1 bt129.2.2 bt132.1 bt134.1 false))))))))))) = some r := h
  clear h
  replace H := Option.bind_eq_some_iff.mp H
  obtain ⟨⟨t121, t122⟩, A10, H⟩ := H
  replace H : ((calendar_Day.f 2000 3 1).bind fun bt123 => ((calendar_Day.f 2024 2 29).bind fun bt125 => ((calendar_Day.f 2023 2 29).bind fun bt127 => ((calendar_Date.f 366).bind fun bt129 => ((calendar_Later.f k 30 1).bind fun bt132 => ((calendar_Parse.f (⟨#[50, 48, 48, 48, 45, 48, 50, 45, 50, 57]⟩ : ByteArray)).bind fun bt134 => ((calendar_Parse.f (⟨#[50, 48, 48, 48, 45, 50, 45, 50, 57]⟩ : ByteArray)).bind fun bt136 => ((calendar_Later.f k 0 (-1)).bind fun bt138 => (if t122 = 0 then (if bt123.2 = 0 then (if bt125.2 = 0 then (if bt127.2 = 21 then (if bt132.2 = 0 then (if bt134.2 = 0 then (if bt136.2 = 12 then (wageofficelaw02_head.j0 k t121 bt123.1 bt125.1 bt129.1 bt129.2.1 bt129.2.2 bt132.1 bt134.1 (bt138.2 == 21)) else (wageofficelaw02_head.j0 k t121 bt123.1 bt125.1 bt129.1 bt129.2.1 bt129.2.2 bt132.1 bt134.1 false)) else (wageofficelaw02_head.j0 k t121 bt123.1 bt125.1 bt129.1 bt129.2.1 bt129.2.2 bt132.1 bt134.1 false)) else (wageofficelaw02_head.j0 k t121 bt123.1 bt125.1 bt129.1 bt129.2.1 bt129.2.2 bt132.1 bt134.1 false)) else (wageofficelaw02_head.j0 k t121 bt123.1 bt125.1 bt129.1 bt129.2.1 bt129.2.2 bt132.1 bt134.1 false)) else (wageofficelaw02_head.j0 k t121 bt123.1 bt125.1 bt129.1 bt129.2.1 bt129.2.2 bt132.1 bt134.1 false)) else (wageofficelaw02_head.j0 k t121 bt123.1 bt125.1 bt129.1 bt129.2.1 bt129.2.2 bt132.1 bt134.1 false)) else (wageofficelaw02_head.j0 k t121 bt123.1 bt125.1 bt129.1 bt129.2.1 bt129.2.2 bt132.1 bt134.1 false)))))))))) = some r := H
  have A1 := Aside0.mk A10
  clear A10
  replace H := Option.bind_eq_some_iff.mp H
  obtain ⟨⟨t123, t124⟩, A20, H⟩ := H
  replace H : ((calendar_Day.f 2024 2 29).bind fun bt125 => ((calendar_Day.f 2023 2 29).bind fun bt127 => ((calendar_Date.f 366).bind fun bt129 => ((calendar_Later.f k 30 1).bind fun bt132 => ((calendar_Parse.f (⟨#[50, 48, 48, 48, 45, 48, 50, 45, 50, 57]⟩ : ByteArray)).bind fun bt134 => ((calendar_Parse.f (⟨#[50, 48, 48, 48, 45, 50, 45, 50, 57]⟩ : ByteArray)).bind fun bt136 => ((calendar_Later.f k 0 (-1)).bind fun bt138 => (if t122 = 0 then (if t124 = 0 then (if bt125.2 = 0 then (if bt127.2 = 21 then (if bt132.2 = 0 then (if bt134.2 = 0 then (if bt136.2 = 12 then (wageofficelaw02_head.j0 k t121 t123 bt125.1 bt129.1 bt129.2.1 bt129.2.2 bt132.1 bt134.1 (bt138.2 == 21)) else (wageofficelaw02_head.j0 k t121 t123 bt125.1 bt129.1 bt129.2.1 bt129.2.2 bt132.1 bt134.1 false)) else (wageofficelaw02_head.j0 k t121 t123 bt125.1 bt129.1 bt129.2.1 bt129.2.2 bt132.1 bt134.1 false)) else (wageofficelaw02_head.j0 k t121 t123 bt125.1 bt129.1 bt129.2.1 bt129.2.2 bt132.1 bt134.1 false)) else (wageofficelaw02_head.j0 k t121 t123 bt125.1 bt129.1 bt129.2.1 bt129.2.2 bt132.1 bt134.1 false)) else (wageofficelaw02_head.j0 k t121 t123 bt125.1 bt129.1 bt129.2.1 bt129.2.2 bt132.1 bt134.1 false)) else (wageofficelaw02_head.j0 k t121 t123 bt125.1 bt129.1 bt129.2.1 bt129.2.2 bt132.1 bt134.1 false)) else (wageofficelaw02_head.j0 k t121 t123 bt125.1 bt129.1 bt129.2.1 bt129.2.2 bt132.1 bt134.1 false))))))))) = some r := H
  have A2 := Aside0.mk A20
  clear A20
  replace H := Option.bind_eq_some_iff.mp H
  obtain ⟨⟨t125, t126⟩, A30, H⟩ := H
  replace H : ((calendar_Day.f 2023 2 29).bind fun bt127 => ((calendar_Date.f 366).bind fun bt129 => ((calendar_Later.f k 30 1).bind fun bt132 => ((calendar_Parse.f (⟨#[50, 48, 48, 48, 45, 48, 50, 45, 50, 57]⟩ : ByteArray)).bind fun bt134 => ((calendar_Parse.f (⟨#[50, 48, 48, 48, 45, 50, 45, 50, 57]⟩ : ByteArray)).bind fun bt136 => ((calendar_Later.f k 0 (-1)).bind fun bt138 => (if t122 = 0 then (if t124 = 0 then (if t126 = 0 then (if bt127.2 = 21 then (if bt132.2 = 0 then (if bt134.2 = 0 then (if bt136.2 = 12 then (wageofficelaw02_head.j0 k t121 t123 t125 bt129.1 bt129.2.1 bt129.2.2 bt132.1 bt134.1 (bt138.2 == 21)) else (wageofficelaw02_head.j0 k t121 t123 t125 bt129.1 bt129.2.1 bt129.2.2 bt132.1 bt134.1 false)) else (wageofficelaw02_head.j0 k t121 t123 t125 bt129.1 bt129.2.1 bt129.2.2 bt132.1 bt134.1 false)) else (wageofficelaw02_head.j0 k t121 t123 t125 bt129.1 bt129.2.1 bt129.2.2 bt132.1 bt134.1 false)) else (wageofficelaw02_head.j0 k t121 t123 t125 bt129.1 bt129.2.1 bt129.2.2 bt132.1 bt134.1 false)) else (wageofficelaw02_head.j0 k t121 t123 t125 bt129.1 bt129.2.1 bt129.2.2 bt132.1 bt134.1 false)) else (wageofficelaw02_head.j0 k t121 t123 t125 bt129.1 bt129.2.1 bt129.2.2 bt132.1 bt134.1 false)) else (wageofficelaw02_head.j0 k t121 t123 t125 bt129.1 bt129.2.1 bt129.2.2 bt132.1 bt134.1 false)))))))) = some r := H
  have A3 := Aside0.mk A30
  clear A30
  replace H := Option.bind_eq_some_iff.mp H
  obtain ⟨⟨t127, t128⟩, A40, H⟩ := H
  replace H : ((calendar_Date.f 366).bind fun bt129 => ((calendar_Later.f k 30 1).bind fun bt132 => ((calendar_Parse.f (⟨#[50, 48, 48, 48, 45, 48, 50, 45, 50, 57]⟩ : ByteArray)).bind fun bt134 => ((calendar_Parse.f (⟨#[50, 48, 48, 48, 45, 50, 45, 50, 57]⟩ : ByteArray)).bind fun bt136 => ((calendar_Later.f k 0 (-1)).bind fun bt138 => (if t122 = 0 then (if t124 = 0 then (if t126 = 0 then (if t128 = 21 then (if bt132.2 = 0 then (if bt134.2 = 0 then (if bt136.2 = 12 then (wageofficelaw02_head.j0 k t121 t123 t125 bt129.1 bt129.2.1 bt129.2.2 bt132.1 bt134.1 (bt138.2 == 21)) else (wageofficelaw02_head.j0 k t121 t123 t125 bt129.1 bt129.2.1 bt129.2.2 bt132.1 bt134.1 false)) else (wageofficelaw02_head.j0 k t121 t123 t125 bt129.1 bt129.2.1 bt129.2.2 bt132.1 bt134.1 false)) else (wageofficelaw02_head.j0 k t121 t123 t125 bt129.1 bt129.2.1 bt129.2.2 bt132.1 bt134.1 false)) else (wageofficelaw02_head.j0 k t121 t123 t125 bt129.1 bt129.2.1 bt129.2.2 bt132.1 bt134.1 false)) else (wageofficelaw02_head.j0 k t121 t123 t125 bt129.1 bt129.2.1 bt129.2.2 bt132.1 bt134.1 false)) else (wageofficelaw02_head.j0 k t121 t123 t125 bt129.1 bt129.2.1 bt129.2.2 bt132.1 bt134.1 false)) else (wageofficelaw02_head.j0 k t121 t123 t125 bt129.1 bt129.2.1 bt129.2.2 bt132.1 bt134.1 false))))))) = some r := H
  have A4 := Aside0.mk A40
  clear A40
  replace H := Option.bind_eq_some_iff.mp H
  obtain ⟨⟨t129, t130, t131⟩, A50, H⟩ := H
  replace H : ((calendar_Later.f k 30 1).bind fun bt132 => ((calendar_Parse.f (⟨#[50, 48, 48, 48, 45, 48, 50, 45, 50, 57]⟩ : ByteArray)).bind fun bt134 => ((calendar_Parse.f (⟨#[50, 48, 48, 48, 45, 50, 45, 50, 57]⟩ : ByteArray)).bind fun bt136 => ((calendar_Later.f k 0 (-1)).bind fun bt138 => (if t122 = 0 then (if t124 = 0 then (if t126 = 0 then (if t128 = 21 then (if bt132.2 = 0 then (if bt134.2 = 0 then (if bt136.2 = 12 then (wageofficelaw02_head.j0 k t121 t123 t125 t129 t130 t131 bt132.1 bt134.1 (bt138.2 == 21)) else (wageofficelaw02_head.j0 k t121 t123 t125 t129 t130 t131 bt132.1 bt134.1 false)) else (wageofficelaw02_head.j0 k t121 t123 t125 t129 t130 t131 bt132.1 bt134.1 false)) else (wageofficelaw02_head.j0 k t121 t123 t125 t129 t130 t131 bt132.1 bt134.1 false)) else (wageofficelaw02_head.j0 k t121 t123 t125 t129 t130 t131 bt132.1 bt134.1 false)) else (wageofficelaw02_head.j0 k t121 t123 t125 t129 t130 t131 bt132.1 bt134.1 false)) else (wageofficelaw02_head.j0 k t121 t123 t125 t129 t130 t131 bt132.1 bt134.1 false)) else (wageofficelaw02_head.j0 k t121 t123 t125 t129 t130 t131 bt132.1 bt134.1 false)))))) = some r := H
  have A5 := Aside0.mk A50
  clear A50
  replace H := Option.bind_eq_some_iff.mp H
  obtain ⟨⟨t132, t133⟩, A60, H⟩ := H
  replace H : ((calendar_Parse.f (⟨#[50, 48, 48, 48, 45, 48, 50, 45, 50, 57]⟩ : ByteArray)).bind fun bt134 => ((calendar_Parse.f (⟨#[50, 48, 48, 48, 45, 50, 45, 50, 57]⟩ : ByteArray)).bind fun bt136 => ((calendar_Later.f k 0 (-1)).bind fun bt138 => (if t122 = 0 then (if t124 = 0 then (if t126 = 0 then (if t128 = 21 then (if t133 = 0 then (if bt134.2 = 0 then (if bt136.2 = 12 then (wageofficelaw02_head.j0 k t121 t123 t125 t129 t130 t131 t132 bt134.1 (bt138.2 == 21)) else (wageofficelaw02_head.j0 k t121 t123 t125 t129 t130 t131 t132 bt134.1 false)) else (wageofficelaw02_head.j0 k t121 t123 t125 t129 t130 t131 t132 bt134.1 false)) else (wageofficelaw02_head.j0 k t121 t123 t125 t129 t130 t131 t132 bt134.1 false)) else (wageofficelaw02_head.j0 k t121 t123 t125 t129 t130 t131 t132 bt134.1 false)) else (wageofficelaw02_head.j0 k t121 t123 t125 t129 t130 t131 t132 bt134.1 false)) else (wageofficelaw02_head.j0 k t121 t123 t125 t129 t130 t131 t132 bt134.1 false)) else (wageofficelaw02_head.j0 k t121 t123 t125 t129 t130 t131 t132 bt134.1 false))))) = some r := H
  have A6 := Aside0.mk A60
  clear A60
  replace H := Option.bind_eq_some_iff.mp H
  obtain ⟨⟨t134, t135⟩, A70, H⟩ := H
  replace H : ((calendar_Parse.f (⟨#[50, 48, 48, 48, 45, 50, 45, 50, 57]⟩ : ByteArray)).bind fun bt136 => ((calendar_Later.f k 0 (-1)).bind fun bt138 => (if t122 = 0 then (if t124 = 0 then (if t126 = 0 then (if t128 = 21 then (if t133 = 0 then (if t135 = 0 then (if bt136.2 = 12 then (wageofficelaw02_head.j0 k t121 t123 t125 t129 t130 t131 t132 t134 (bt138.2 == 21)) else (wageofficelaw02_head.j0 k t121 t123 t125 t129 t130 t131 t132 t134 false)) else (wageofficelaw02_head.j0 k t121 t123 t125 t129 t130 t131 t132 t134 false)) else (wageofficelaw02_head.j0 k t121 t123 t125 t129 t130 t131 t132 t134 false)) else (wageofficelaw02_head.j0 k t121 t123 t125 t129 t130 t131 t132 t134 false)) else (wageofficelaw02_head.j0 k t121 t123 t125 t129 t130 t131 t132 t134 false)) else (wageofficelaw02_head.j0 k t121 t123 t125 t129 t130 t131 t132 t134 false)) else (wageofficelaw02_head.j0 k t121 t123 t125 t129 t130 t131 t132 t134 false)))) = some r := H
  have A7 := Aside0.mk A70
  clear A70
  replace H := Option.bind_eq_some_iff.mp H
  obtain ⟨⟨t136, t137⟩, A80, H⟩ := H
  replace H : ((calendar_Later.f k 0 (-1)).bind fun bt138 => (if t122 = 0 then (if t124 = 0 then (if t126 = 0 then (if t128 = 21 then (if t133 = 0 then (if t135 = 0 then (if t137 = 12 then (wageofficelaw02_head.j0 k t121 t123 t125 t129 t130 t131 t132 t134 (bt138.2 == 21)) else (wageofficelaw02_head.j0 k t121 t123 t125 t129 t130 t131 t132 t134 false)) else (wageofficelaw02_head.j0 k t121 t123 t125 t129 t130 t131 t132 t134 false)) else (wageofficelaw02_head.j0 k t121 t123 t125 t129 t130 t131 t132 t134 false)) else (wageofficelaw02_head.j0 k t121 t123 t125 t129 t130 t131 t132 t134 false)) else (wageofficelaw02_head.j0 k t121 t123 t125 t129 t130 t131 t132 t134 false)) else (wageofficelaw02_head.j0 k t121 t123 t125 t129 t130 t131 t132 t134 false)) else (wageofficelaw02_head.j0 k t121 t123 t125 t129 t130 t131 t132 t134 false))) = some r := H
  have A8 := Aside0.mk A80
  clear A80
  replace H := Option.bind_eq_some_iff.mp H
  obtain ⟨⟨t138, t139⟩, A90, H⟩ := H
  replace H : (if t122 = 0 then (if t124 = 0 then (if t126 = 0 then (if t128 = 21 then (if t133 = 0 then (if t135 = 0 then (if t137 = 12 then (wageofficelaw02_head.j0 k t121 t123 t125 t129 t130 t131 t132 t134 (t139 == 21)) else (wageofficelaw02_head.j0 k t121 t123 t125 t129 t130 t131 t132 t134 false)) else (wageofficelaw02_head.j0 k t121 t123 t125 t129 t130 t131 t132 t134 false)) else (wageofficelaw02_head.j0 k t121 t123 t125 t129 t130 t131 t132 t134 false)) else (wageofficelaw02_head.j0 k t121 t123 t125 t129 t130 t131 t132 t134 false)) else (wageofficelaw02_head.j0 k t121 t123 t125 t129 t130 t131 t132 t134 false)) else (wageofficelaw02_head.j0 k t121 t123 t125 t129 t130 t131 t132 t134 false)) else (wageofficelaw02_head.j0 k t121 t123 t125 t129 t130 t131 t132 t134 false)) = some r := H
  have A9 := Aside0.mk A90
  clear A90
  have HC10 := Aside0.mk H
  clear H
  go_enter Tryd.func9, Tryd.ntmps9
  go_upto_region 10 with (first | ((with_reducible refine gate_callee (f := 25) rfl ?_); refine goesL_ (some 22) rfl rfl Tryd.func25 (by kernel_rfl) rfl #[.int .i64 2000, .int .i64 1, .int .i64 1] rfl (by (try simp only [List.map_toArray, List.map_cons, List.map_nil]); first | done | rfl | (simp only [List.length_drop, List.length_take]; rfl)) ?_; (with_reducible refine (calendar_Day.calls 2000 1 1 t121 t122 _ A1.out (TabBefore.below hTBefore.out (by repeat (first | exact HB.out | exact Below.refl _ _ | apply below_alloc | apply pw_below_drewN | apply below_drew1 | apply below_drew)))).mono ?_); rintro e w11 ⟨rfl, hb⟩; refine ⟨_, rfl, ?_⟩; have n0_ := Aside0.mk (below_step (by repeat (first | (with_reducible first | exact HB.out | apply below_alloc | apply pw_below_drewN | apply below_drew1) | exact HB.out)) hb); clear HB; have HB := n0_; clear n0_; (try clear hb); (try clear hb2); (try clear hk); (try clear hi)) | ((with_reducible refine gate_callee (f := 25) rfl ?_); refine goesL_ (some 26) rfl rfl Tryd.func25 (by kernel_rfl) rfl #[.int .i64 2000, .int .i64 3, .int .i64 1] rfl (by (try simp only [List.map_toArray, List.map_cons, List.map_nil]); first | done | rfl | (simp only [List.length_drop, List.length_take]; rfl)) ?_; (with_reducible refine (calendar_Day.calls 2000 3 1 t123 t124 _ A2.out (TabBefore.below hTBefore.out (by repeat (first | exact HB.out | exact Below.refl _ _ | apply below_alloc | apply pw_below_drewN | apply below_drew1 | apply below_drew)))).mono ?_); rintro e w12 ⟨rfl, hb⟩; refine ⟨_, rfl, ?_⟩; have n0_ := Aside0.mk (below_step (by repeat (first | (with_reducible first | exact HB.out | apply below_alloc | apply pw_below_drewN | apply below_drew1) | exact HB.out)) hb); clear HB; have HB := n0_; clear n0_; (try clear hb); (try clear hb2); (try clear hk); (try clear hi)) | ((with_reducible refine gate_callee (f := 25) rfl ?_); refine goesL_ (some 30) rfl rfl Tryd.func25 (by kernel_rfl) rfl #[.int .i64 2024, .int .i64 2, .int .i64 29] rfl (by (try simp only [List.map_toArray, List.map_cons, List.map_nil]); first | done | rfl | (simp only [List.length_drop, List.length_take]; rfl)) ?_; (with_reducible refine (calendar_Day.calls 2024 2 29 t125 t126 _ A3.out (TabBefore.below hTBefore.out (by repeat (first | exact HB.out | exact Below.refl _ _ | apply below_alloc | apply pw_below_drewN | apply below_drew1 | apply below_drew)))).mono ?_); rintro e w13 ⟨rfl, hb⟩; refine ⟨_, rfl, ?_⟩; have n0_ := Aside0.mk (below_step (by repeat (first | (with_reducible first | exact HB.out | apply below_alloc | apply pw_below_drewN | apply below_drew1) | exact HB.out)) hb); clear HB; have HB := n0_; clear n0_; (try clear hb); (try clear hb2); (try clear hk); (try clear hi)) | ((with_reducible refine gate_callee (f := 25) rfl ?_); refine goesL_ (some 34) rfl rfl Tryd.func25 (by kernel_rfl) rfl #[.int .i64 2023, .int .i64 2, .int .i64 29] rfl (by (try simp only [List.map_toArray, List.map_cons, List.map_nil]); first | done | rfl | (simp only [List.length_drop, List.length_take]; rfl)) ?_; (with_reducible refine (calendar_Day.calls 2023 2 29 t127 t128 _ A4.out (TabBefore.below hTBefore.out (by repeat (first | exact HB.out | exact Below.refl _ _ | apply below_alloc | apply pw_below_drewN | apply below_drew1 | apply below_drew)))).mono ?_); rintro e w14 ⟨rfl, hb⟩; refine ⟨_, rfl, ?_⟩; have n0_ := Aside0.mk (below_step (by repeat (first | (with_reducible first | exact HB.out | apply below_alloc | apply pw_below_drewN | apply below_drew1) | exact HB.out)) hb); clear HB; have HB := n0_; clear n0_; (try clear hb); (try clear hb2); (try clear hk); (try clear hi)) | ((with_reducible refine gate_callee (f := 11) rfl ?_); refine goesL_ (some 38) rfl rfl Tryd.func11 (by kernel_rfl) rfl #[.int .i64 366] rfl (by (try simp only [List.map_toArray, List.map_cons, List.map_nil]); first | done | rfl | (simp only [List.length_drop, List.length_take]; rfl)) ?_; (with_reducible refine (calendar_Date.calls 366 t129 t130 t131 _ A5.out (TabBefore.below hTBefore.out (by repeat (first | exact HB.out | exact Below.refl _ _ | apply below_alloc | apply pw_below_drewN | apply below_drew1 | apply below_drew)))).mono ?_); rintro e w15 ⟨rfl, hb⟩; refine ⟨_, rfl, ?_⟩; have n0_ := Aside0.mk (below_step (by repeat (first | (with_reducible first | exact HB.out | apply below_alloc | apply pw_below_drewN | apply below_drew1) | exact HB.out)) hb); clear HB; have HB := n0_; clear n0_; (try clear hb); (try clear hb2); (try clear hk); (try clear hi)) | ((with_reducible refine gate_callee (f := 13) rfl ?_); refine goesL_ (some 43) rfl rfl Tryd.func13 (by kernel_rfl) rfl #[.int .i64 30, .int .i64 1] rfl (by (try simp only [List.map_toArray, List.map_cons, List.map_nil]); first | done | rfl | (simp only [List.length_drop, List.length_take]; rfl)) ?_; (with_reducible refine (calendar_Later.calls k 30 1 t132 t133 _ A6.out (TabBefore.below hTBefore.out (by repeat (first | exact HB.out | exact Below.refl _ _ | apply below_alloc | apply pw_below_drewN | apply below_drew1 | apply below_drew)))).mono ?_); rintro e w16 ⟨rfl, hb⟩; refine ⟨_, rfl, ?_⟩; have n0_ := Aside0.mk (below_step (by repeat (first | (with_reducible first | exact HB.out | apply below_alloc | apply pw_below_drewN | apply below_drew1) | exact HB.out)) hb); clear HB; have HB := n0_; clear n0_; (try clear hb); (try clear hb2); (try clear hk); (try clear hi)) | ((with_reducible refine gate_callee (f := 27) rfl ?_); refine goesL_ (some 47) rfl rfl Tryd.func27 (by kernel_rfl) rfl #[.string (⟨#[50, 48, 48, 48, 45, 48, 50, 45, 50, 57]⟩ : ByteArray)] rfl (by (try simp only [List.map_toArray, List.map_cons, List.map_nil]); first | done | rfl | (simp only [List.length_drop, List.length_take]; rfl)) ?_; (with_reducible refine (calendar_Parse.calls (⟨#[50, 48, 48, 48, 45, 48, 50, 45, 50, 57]⟩ : ByteArray) t134 t135 _ A7.out (TabBefore.below hTBefore.out (by repeat (first | exact HB.out | exact Below.refl _ _ | apply below_alloc | apply pw_below_drewN | apply below_drew1 | apply below_drew)))).mono ?_); rintro e w17 ⟨rfl, hb⟩; refine ⟨_, rfl, ?_⟩; have n0_ := Aside0.mk (below_step (by repeat (first | (with_reducible first | exact HB.out | apply below_alloc | apply pw_below_drewN | apply below_drew1) | exact HB.out)) hb); clear HB; have HB := n0_; clear n0_; (try clear hb); (try clear hb2); (try clear hk); (try clear hi)) | ((with_reducible refine gate_callee (f := 27) rfl ?_); refine goesL_ (some 51) rfl rfl Tryd.func27 (by kernel_rfl) rfl #[.string (⟨#[50, 48, 48, 48, 45, 50, 45, 50, 57]⟩ : ByteArray)] rfl (by (try simp only [List.map_toArray, List.map_cons, List.map_nil]); first | done | rfl | (simp only [List.length_drop, List.length_take]; rfl)) ?_; (with_reducible refine (calendar_Parse.calls (⟨#[50, 48, 48, 48, 45, 50, 45, 50, 57]⟩ : ByteArray) t136 t137 _ A8.out (TabBefore.below hTBefore.out (by repeat (first | exact HB.out | exact Below.refl _ _ | apply below_alloc | apply pw_below_drewN | apply below_drew1 | apply below_drew)))).mono ?_); rintro e w18 ⟨rfl, hb⟩; refine ⟨_, rfl, ?_⟩; have n0_ := Aside0.mk (below_step (by repeat (first | (with_reducible first | exact HB.out | apply below_alloc | apply pw_below_drewN | apply below_drew1) | exact HB.out)) hb); clear HB; have HB := n0_; clear n0_; (try clear hb); (try clear hb2); (try clear hk); (try clear hi)) | ((with_reducible refine gate_callee (f := 13) rfl ?_); refine goesL_ (some 55) rfl rfl Tryd.func13 (by kernel_rfl) rfl #[.int .i64 0, .int .i64 (-1)] rfl (by (try simp only [List.map_toArray, List.map_cons, List.map_nil]); first | done | rfl | (simp only [List.length_drop, List.length_take]; rfl)) ?_; (with_reducible refine (calendar_Later.calls k 0 (-1) t138 t139 _ A9.out (TabBefore.below hTBefore.out (by repeat (first | exact HB.out | exact Below.refl _ _ | apply below_alloc | apply pw_below_drewN | apply below_drew1 | apply below_drew)))).mono ?_); rintro e w19 ⟨rfl, hb⟩; refine ⟨_, rfl, ?_⟩; have n0_ := Aside0.mk (below_step (by repeat (first | (with_reducible first | exact HB.out | apply below_alloc | apply pw_below_drewN | apply below_drew1) | exact HB.out)) hb); clear HB; have HB := n0_; clear n0_; (try clear hb); (try clear hb2); (try clear hk); (try clear hi)))
  (try simp only [Act.put, List.setIfInBounds_toArray, List.set_cons_zero, List.set_cons_succ])
  go_cut [20] (fun v20 wc => ∃ (kq : Nat) (x20_9 : Bool), v20 = .bool x20_9 ∧ Aside0 (wageofficelaw02_head.j0 kq t121 t123 t125 t129 t130 t131 t132 t134 x20_9 = some r) ∧ Aside0 (kq ≤ k) ∧ Aside0 (Below w.heap.size w wc))
  case first =>
    have H := HC10.out
    clear HC10
    by_cases c20 : t122 = 0
    · rw [if_pos c20] at H
      have c20b0 : (t122 == 0) = true := beq_iff_eq.mpr c20
      have c20b1 : (t122 != 0) = false := bne_eq_false_iff_eq.mpr c20
      clear c20
      (first | rw [c20b0] | (simp only [i64_w, i32_w]; rw [c20b0]) | skip)
      by_cases c21 : t124 = 0
      · rw [if_pos c21] at H
        have c21b0 : (t124 == 0) = true := beq_iff_eq.mpr c21
        have c21b1 : (t124 != 0) = false := bne_eq_false_iff_eq.mpr c21
        clear c21
        by_cases c22 : t126 = 0
        · rw [if_pos c22] at H
          have c22b0 : (t126 == 0) = true := beq_iff_eq.mpr c22
          have c22b1 : (t126 != 0) = false := bne_eq_false_iff_eq.mpr c22
          clear c22
          by_cases c23 : t128 = 21
          · rw [if_pos c23] at H
            have c23b0 : (t128 == 21) = true := beq_iff_eq.mpr c23
            have c23b1 : (t128 != 21) = false := bne_eq_false_iff_eq.mpr c23
            clear c23
            by_cases c24 : t133 = 0
            · rw [if_pos c24] at H
              have c24b0 : (t133 == 0) = true := beq_iff_eq.mpr c24
              have c24b1 : (t133 != 0) = false := bne_eq_false_iff_eq.mpr c24
              clear c24
              by_cases c25 : t135 = 0
              · rw [if_pos c25] at H
                have c25b0 : (t135 == 0) = true := beq_iff_eq.mpr c25
                have c25b1 : (t135 != 0) = false := bne_eq_false_iff_eq.mpr c25
                clear c25
                by_cases c26 : t137 = 12
                · rw [if_pos c26] at H
                  have c26b0 : (t137 == 12) = true := beq_iff_eq.mpr c26
                  have c26b1 : (t137 != 12) = false := bne_eq_false_iff_eq.mpr c26
                  clear c26
                  have H' := Aside0.mk H
                  clear H
                  go_wp2
                  go_meet
                  case rel => exact ⟨_, ((t139 == 21)), (by first | rfl | (simp; done) | (simp [*]; done)), H', ⟨by first | omega | exact Nat.le_refl _⟩, ⟨by repeat (first | (with_reducible first | exact HB.out | apply below_alloc | apply pw_below_drewN | apply below_drew1) | exact HB.out)⟩⟩
                · rw [if_neg c26] at H
                  have c26b0 : (t137 == 12) = false := beq_eq_false_iff_ne.mpr c26
                  have c26b1 : (t137 != 12) = true := bne_iff_ne.mpr c26
                  have H' := Aside0.mk H
                  clear H
                  go_wp2
                  go_meet
                  case rel => exact ⟨_, (false), (by first | rfl | (simp; done) | (simp [*]; done)), H', ⟨by first | omega | exact Nat.le_refl _⟩, ⟨by repeat (first | (with_reducible first | exact HB.out | apply below_alloc | apply pw_below_drewN | apply below_drew1) | exact HB.out)⟩⟩
              · rw [if_neg c25] at H
                have c25b0 : (t135 == 0) = false := beq_eq_false_iff_ne.mpr c25
                have c25b1 : (t135 != 0) = true := bne_iff_ne.mpr c25
                have H' := Aside0.mk H
                clear H
                go_wp2
                go_meet
                case rel => exact ⟨_, (false), (by first | rfl | (simp; done) | (simp [*]; done)), H', ⟨by first | omega | exact Nat.le_refl _⟩, ⟨by repeat (first | (with_reducible first | exact HB.out | apply below_alloc | apply pw_below_drewN | apply below_drew1) | exact HB.out)⟩⟩
            · rw [if_neg c24] at H
              have c24b0 : (t133 == 0) = false := beq_eq_false_iff_ne.mpr c24
              have c24b1 : (t133 != 0) = true := bne_iff_ne.mpr c24
              have H' := Aside0.mk H
              clear H
              go_wp2
              go_meet
              case rel => exact ⟨_, (false), (by first | rfl | (simp; done) | (simp [*]; done)), H', ⟨by first | omega | exact Nat.le_refl _⟩, ⟨by repeat (first | (with_reducible first | exact HB.out | apply below_alloc | apply pw_below_drewN | apply below_drew1) | exact HB.out)⟩⟩
          · rw [if_neg c23] at H
            have c23b0 : (t128 == 21) = false := beq_eq_false_iff_ne.mpr c23
            have c23b1 : (t128 != 21) = true := bne_iff_ne.mpr c23
            have H' := Aside0.mk H
            clear H
            go_wp2
            go_meet
            case rel => exact ⟨_, (false), (by first | rfl | (simp; done) | (simp [*]; done)), H', ⟨by first | omega | exact Nat.le_refl _⟩, ⟨by repeat (first | (with_reducible first | exact HB.out | apply below_alloc | apply pw_below_drewN | apply below_drew1) | exact HB.out)⟩⟩
        · rw [if_neg c22] at H
          have c22b0 : (t126 == 0) = false := beq_eq_false_iff_ne.mpr c22
          have c22b1 : (t126 != 0) = true := bne_iff_ne.mpr c22
          have H' := Aside0.mk H
          clear H
          go_wp2
          go_meet
          case rel => exact ⟨_, (false), (by first | rfl | (simp; done) | (simp [*]; done)), H', ⟨by first | omega | exact Nat.le_refl _⟩, ⟨by repeat (first | (with_reducible first | exact HB.out | apply below_alloc | apply pw_below_drewN | apply below_drew1) | exact HB.out)⟩⟩
      · rw [if_neg c21] at H
        have c21b0 : (t124 == 0) = false := beq_eq_false_iff_ne.mpr c21
        have c21b1 : (t124 != 0) = true := bne_iff_ne.mpr c21
        have H' := Aside0.mk H
        clear H
        go_wp2
        go_meet
        case rel => exact ⟨_, (false), (by first | rfl | (simp; done) | (simp [*]; done)), H', ⟨by first | omega | exact Nat.le_refl _⟩, ⟨by repeat (first | (with_reducible first | exact HB.out | apply below_alloc | apply pw_below_drewN | apply below_drew1) | exact HB.out)⟩⟩
    · rw [if_neg c20] at H
      have c20b0 : (t122 == 0) = false := beq_eq_false_iff_ne.mpr c20
      have c20b1 : (t122 != 0) = true := bne_iff_ne.mpr c20
      (first | rw [c20b0] | (simp only [i64_w, i32_w]; rw [c20b0]) | skip)
      have H' := Aside0.mk H
      clear H
      go_wp2
      go_meet
      case rel => exact ⟨_, (false), (by first | rfl | (simp; done) | (simp [*]; done)), H', ⟨by first | omega | exact Nat.le_refl _⟩, ⟨by repeat (first | (with_reducible first | exact HB.out | apply below_alloc | apply pw_below_drewN | apply below_drew1) | exact HB.out)⟩⟩
  case rest =>
    clear HC10
    try clear c1
    try clear c2
    try clear p2
    try clear c9
    try clear c11
    try clear c13
    try clear c20
    try clear c20b0
    try clear c20b1
    try clear c21
    try clear c21b0
    try clear c21b1
    try clear c22
    try clear c22b0
    try clear c22b1
    try clear c23
    try clear c23b0
    try clear c23b1
    try clear c24
    try clear c24b0
    try clear c24b1
    try clear c25
    try clear c25b0
    try clear c25b1
    try clear c26
    try clear c26b0
    try clear c26b1
    obtain ⟨kq, x20_9, rfl, HA, HJ9, HB⟩ := hcut
    cases kq with
    | zero => exact absurd HA.out (by simp [wageofficelaw02_head.j0])
    | succ kj9 =>
      have H := HA.out
      clear HA
      simp only [wageofficelaw02_head.j0] at H
      have HC27 := Aside0.mk H
      clear H
      go_upto_region 11 with (fail)
      go_cut [20] (fun v20 wc => ∃ (kq : Nat) (x20_26 : Bool), v20 = .bool x20_26 ∧ Aside0 (wageofficelaw02_head.j1 kq x20_26 = some r) ∧ Aside0 (kq ≤ kj9) ∧ Aside0 (Below w.heap.size w wc))
      case first =>
        have H := HC27.out
        clear HC27
        by_cases c28 : x20_9 = true
        · subst c28
          have H1 : (if t121 = 0 then (if t123 = 60 then (if t125 = 8825 then (if t129 = 2001 then (if t130 = 1 then (if t131 = 1 then (if t132 = 59 then (wageofficelaw02_head.j1 kj9 (t134 == 59)) else (wageofficelaw02_head.j1 kj9 false)) else (wageofficelaw02_head.j1 kj9 false)) else (wageofficelaw02_head.j1 kj9 false)) else (wageofficelaw02_head.j1 kj9 false)) else (wageofficelaw02_head.j1 kj9 false)) else (wageofficelaw02_head.j1 kj9 false)) else (wageofficelaw02_head.j1 kj9 false)) = some r := by rw [if_pos rfl] at H; exact H
          clear H
          have H := H1
          clear H1
          by_cases c29 : t121 = 0
          · rw [if_pos c29] at H
            have c29b0 : (t121 == 0) = true := beq_iff_eq.mpr c29
            have c29b1 : (t121 != 0) = false := bne_eq_false_iff_eq.mpr c29
            clear c29
            (first | rw [c29b0] | (simp only [i64_w, i32_w]; rw [c29b0]) | skip)
            by_cases c30 : t123 = 60
            · rw [if_pos c30] at H
              have c30b0 : (t123 == 60) = true := beq_iff_eq.mpr c30
              have c30b1 : (t123 != 60) = false := bne_eq_false_iff_eq.mpr c30
              clear c30
              by_cases c31 : t125 = 8825
              · rw [if_pos c31] at H
                have c31b0 : (t125 == 8825) = true := beq_iff_eq.mpr c31
                have c31b1 : (t125 != 8825) = false := bne_eq_false_iff_eq.mpr c31
                clear c31
                by_cases c32 : t129 = 2001
                · rw [if_pos c32] at H
                  have c32b0 : (t129 == 2001) = true := beq_iff_eq.mpr c32
                  have c32b1 : (t129 != 2001) = false := bne_eq_false_iff_eq.mpr c32
                  clear c32
                  by_cases c33 : t130 = 1
                  · rw [if_pos c33] at H
                    have c33b0 : (t130 == 1) = true := beq_iff_eq.mpr c33
                    have c33b1 : (t130 != 1) = false := bne_eq_false_iff_eq.mpr c33
                    clear c33
                    by_cases c34 : t131 = 1
                    · rw [if_pos c34] at H
                      have c34b0 : (t131 == 1) = true := beq_iff_eq.mpr c34
                      have c34b1 : (t131 != 1) = false := bne_eq_false_iff_eq.mpr c34
                      clear c34
                      by_cases c35 : t132 = 59
                      · rw [if_pos c35] at H
                        have c35b0 : (t132 == 59) = true := beq_iff_eq.mpr c35
                        have c35b1 : (t132 != 59) = false := bne_eq_false_iff_eq.mpr c35
                        clear c35
                        have H' := Aside0.mk H
                        clear H
                        go_wp2
                        go_meet
                        case rel => exact ⟨_, ((t134 == 59)), (by first | rfl | (simp; done) | (simp [*]; done)), H', ⟨by have := HJ9.out; first | omega | exact Nat.le_refl _⟩, ⟨by repeat (first | (with_reducible first | exact HB.out | apply below_alloc | apply pw_below_drewN | apply below_drew1) | exact HB.out)⟩⟩
                      · rw [if_neg c35] at H
                        have c35b0 : (t132 == 59) = false := beq_eq_false_iff_ne.mpr c35
                        have c35b1 : (t132 != 59) = true := bne_iff_ne.mpr c35
                        have H' := Aside0.mk H
                        clear H
                        go_wp2
                        go_meet
                        case rel => exact ⟨_, (false), (by first | rfl | (simp; done) | (simp [*]; done)), H', ⟨by have := HJ9.out; first | omega | exact Nat.le_refl _⟩, ⟨by repeat (first | (with_reducible first | exact HB.out | apply below_alloc | apply pw_below_drewN | apply below_drew1) | exact HB.out)⟩⟩
                    · rw [if_neg c34] at H
                      have c34b0 : (t131 == 1) = false := beq_eq_false_iff_ne.mpr c34
                      have c34b1 : (t131 != 1) = true := bne_iff_ne.mpr c34
                      have H' := Aside0.mk H
                      clear H
                      go_wp2
                      go_meet
                      case rel => exact ⟨_, (false), (by first | rfl | (simp; done) | (simp [*]; done)), H', ⟨by have := HJ9.out; first | omega | exact Nat.le_refl _⟩, ⟨by repeat (first | (with_reducible first | exact HB.out | apply below_alloc | apply pw_below_drewN | apply below_drew1) | exact HB.out)⟩⟩
                  · rw [if_neg c33] at H
                    have c33b0 : (t130 == 1) = false := beq_eq_false_iff_ne.mpr c33
                    have c33b1 : (t130 != 1) = true := bne_iff_ne.mpr c33
                    have H' := Aside0.mk H
                    clear H
                    go_wp2
                    go_meet
                    case rel => exact ⟨_, (false), (by first | rfl | (simp; done) | (simp [*]; done)), H', ⟨by have := HJ9.out; first | omega | exact Nat.le_refl _⟩, ⟨by repeat (first | (with_reducible first | exact HB.out | apply below_alloc | apply pw_below_drewN | apply below_drew1) | exact HB.out)⟩⟩
                · rw [if_neg c32] at H
                  have c32b0 : (t129 == 2001) = false := beq_eq_false_iff_ne.mpr c32
                  have c32b1 : (t129 != 2001) = true := bne_iff_ne.mpr c32
                  have H' := Aside0.mk H
                  clear H
                  go_wp2
                  go_meet
                  case rel => exact ⟨_, (false), (by first | rfl | (simp; done) | (simp [*]; done)), H', ⟨by have := HJ9.out; first | omega | exact Nat.le_refl _⟩, ⟨by repeat (first | (with_reducible first | exact HB.out | apply below_alloc | apply pw_below_drewN | apply below_drew1) | exact HB.out)⟩⟩
              · rw [if_neg c31] at H
                have c31b0 : (t125 == 8825) = false := beq_eq_false_iff_ne.mpr c31
                have c31b1 : (t125 != 8825) = true := bne_iff_ne.mpr c31
                have H' := Aside0.mk H
                clear H
                go_wp2
                go_meet
                case rel => exact ⟨_, (false), (by first | rfl | (simp; done) | (simp [*]; done)), H', ⟨by have := HJ9.out; first | omega | exact Nat.le_refl _⟩, ⟨by repeat (first | (with_reducible first | exact HB.out | apply below_alloc | apply pw_below_drewN | apply below_drew1) | exact HB.out)⟩⟩
            · rw [if_neg c30] at H
              have c30b0 : (t123 == 60) = false := beq_eq_false_iff_ne.mpr c30
              have c30b1 : (t123 != 60) = true := bne_iff_ne.mpr c30
              have H' := Aside0.mk H
              clear H
              go_wp2
              go_meet
              case rel => exact ⟨_, (false), (by first | rfl | (simp; done) | (simp [*]; done)), H', ⟨by have := HJ9.out; first | omega | exact Nat.le_refl _⟩, ⟨by repeat (first | (with_reducible first | exact HB.out | apply below_alloc | apply pw_below_drewN | apply below_drew1) | exact HB.out)⟩⟩
          · rw [if_neg c29] at H
            have c29b0 : (t121 == 0) = false := beq_eq_false_iff_ne.mpr c29
            have c29b1 : (t121 != 0) = true := bne_iff_ne.mpr c29
            (first | rw [c29b0] | (simp only [i64_w, i32_w]; rw [c29b0]) | skip)
            have H' := Aside0.mk H
            clear H
            go_wp2
            go_meet
            case rel => exact ⟨_, (false), (by first | rfl | (simp; done) | (simp [*]; done)), H', ⟨by have := HJ9.out; first | omega | exact Nat.le_refl _⟩, ⟨by repeat (first | (with_reducible first | exact HB.out | apply below_alloc | apply pw_below_drewN | apply below_drew1) | exact HB.out)⟩⟩
        · replace c28 := Bool.eq_false_iff.mpr c28
          subst c28
          have H1 : (wageofficelaw02_head.j1 kj9 false) = some r := by rw [if_neg (show ¬ (false = true) by decide)] at H; exact H
          clear H
          have H := H1
          clear H1
          have H' := Aside0.mk H
          clear H
          go_wp2
          go_meet
          case rel => exact ⟨_, (false), (by first | rfl | (simp; done) | (simp [*]; done)), H', ⟨by have := HJ9.out; first | omega | exact Nat.le_refl _⟩, ⟨by repeat (first | (with_reducible first | exact HB.out | apply below_alloc | apply pw_below_drewN | apply below_drew1) | exact HB.out)⟩⟩
      case rest =>
        clear HC27
        try clear c1
        try clear c2
        try clear p2
        try clear c3
        try clear c9
        try clear c11
        try clear c13
        try clear c20
        try clear c20b0
        try clear c20b1
        try clear c21
        try clear c21b0
        try clear c21b1
        try clear c22
        try clear c22b0
        try clear c22b1
        try clear c23
        try clear c23b0
        try clear c23b1
        try clear c24
        try clear c24b0
        try clear c24b1
        try clear c25
        try clear c25b0
        try clear c25b1
        try clear c26
        try clear c26b0
        try clear c26b1
        try clear c27
        try clear c28
        try clear c29
        try clear c29b0
        try clear c29b1
        try clear c30
        try clear c30b0
        try clear c30b1
        try clear c31
        try clear c31b0
        try clear c31b1
        try clear c32
        try clear c32b0
        try clear c32b1
        try clear c33
        try clear c33b0
        try clear c33b1
        try clear c34
        try clear c34b0
        try clear c34b1
        try clear c35
        try clear c35b0
        try clear c35b1
        try clear p2
        obtain ⟨kq, x20_26, rfl, HA, HJ26, HB⟩ := hcut
        cases kq with
        | zero => exact absurd HA.out (by simp [wageofficelaw02_head.j1])
        | succ kj26 =>
          have H := HA.out
          clear HA
          simp only [wageofficelaw02_head.j1] at H
          by_cases c36 : x20_26 = true
          · subst c36
            have H1 : ((calendar_Weekday.f 0).bind fun t140 => (if t140 = 6 then ((calendar_Weekday.f 2).bind fun t141 => (if t141 = 1 then ((calendar_Month.f 60).bind fun t142 => (if t142 = 2 then ((calendar_First.f 2).bind fun t143 => (if t143 = 60 then ((calendar_Length.f 1).bind fun t144 => (if t144 = 29 then ((calendar_Text.f kj26 59).bind fun t145 => (some (t145.toList == ([50, 48, 48, 48, 45, 48, 50, 45, 50, 57] : List UInt8)))) else (some false))) else (some false))) else (some false))) else (some false))) else (some false))) = some r := by rw [if_pos rfl] at H; exact H
            clear H
            have H := H1
            clear H1
            replace H := Option.bind_eq_some_iff.mp H
            obtain ⟨t140, A370, H⟩ := H
            replace H : (if t140 = 6 then ((calendar_Weekday.f 2).bind fun t141 => (if t141 = 1 then ((calendar_Month.f 60).bind fun t142 => (if t142 = 2 then ((calendar_First.f 2).bind fun t143 => (if t143 = 60 then ((calendar_Length.f 1).bind fun t144 => (if t144 = 29 then ((calendar_Text.f kj26 59).bind fun t145 => (some (t145.toList == ([50, 48, 48, 48, 45, 48, 50, 45, 50, 57] : List UInt8)))) else (some false))) else (some false))) else (some false))) else (some false))) else (some false)) = some r := H
            have A37 := Aside0.mk A370
            clear A370
            by_cases c38 : t140 = 6
            · rw [if_pos c38] at H
              have c38b0 : (t140 == 6) = true := beq_iff_eq.mpr c38
              have c38b1 : (t140 != 6) = false := bne_eq_false_iff_eq.mpr c38
              clear c38
              replace H := Option.bind_eq_some_iff.mp H
              obtain ⟨t141, A390, H⟩ := H
              replace H : (if t141 = 1 then ((calendar_Month.f 60).bind fun t142 => (if t142 = 2 then ((calendar_First.f 2).bind fun t143 => (if t143 = 60 then ((calendar_Length.f 1).bind fun t144 => (if t144 = 29 then ((calendar_Text.f kj26 59).bind fun t145 => (some (t145.toList == ([50, 48, 48, 48, 45, 48, 50, 45, 50, 57] : List UInt8)))) else (some false))) else (some false))) else (some false))) else (some false)) = some r := H
              have A39 := Aside0.mk A390
              clear A390
              by_cases c40 : t141 = 1
              · rw [if_pos c40] at H
                have c40b0 : (t141 == 1) = true := beq_iff_eq.mpr c40
                have c40b1 : (t141 != 1) = false := bne_eq_false_iff_eq.mpr c40
                clear c40
                replace H := Option.bind_eq_some_iff.mp H
                obtain ⟨t142, A410, H⟩ := H
                replace H : (if t142 = 2 then ((calendar_First.f 2).bind fun t143 => (if t143 = 60 then ((calendar_Length.f 1).bind fun t144 => (if t144 = 29 then ((calendar_Text.f kj26 59).bind fun t145 => (some (t145.toList == ([50, 48, 48, 48, 45, 48, 50, 45, 50, 57] : List UInt8)))) else (some false))) else (some false))) else (some false)) = some r := H
                have A41 := Aside0.mk A410
                clear A410
                by_cases c42 : t142 = 2
                · rw [if_pos c42] at H
                  have c42b0 : (t142 == 2) = true := beq_iff_eq.mpr c42
                  have c42b1 : (t142 != 2) = false := bne_eq_false_iff_eq.mpr c42
                  clear c42
                  replace H := Option.bind_eq_some_iff.mp H
                  obtain ⟨t143, A430, H⟩ := H
                  replace H : (if t143 = 60 then ((calendar_Length.f 1).bind fun t144 => (if t144 = 29 then ((calendar_Text.f kj26 59).bind fun t145 => (some (t145.toList == ([50, 48, 48, 48, 45, 48, 50, 45, 50, 57] : List UInt8)))) else (some false))) else (some false)) = some r := H
                  have A43 := Aside0.mk A430
                  clear A430
                  by_cases c44 : t143 = 60
                  · rw [if_pos c44] at H
                    have c44b0 : (t143 == 60) = true := beq_iff_eq.mpr c44
                    have c44b1 : (t143 != 60) = false := bne_eq_false_iff_eq.mpr c44
                    clear c44
                    replace H := Option.bind_eq_some_iff.mp H
                    obtain ⟨t144, A450, H⟩ := H
                    replace H : (if t144 = 29 then ((calendar_Text.f kj26 59).bind fun t145 => (some (t145.toList == ([50, 48, 48, 48, 45, 48, 50, 45, 50, 57] : List UInt8)))) else (some false)) = some r := H
                    have A45 := Aside0.mk A450
                    clear A450
                    by_cases c46 : t144 = 29
                    · rw [if_pos c46] at H
                      have c46b0 : (t144 == 29) = true := beq_iff_eq.mpr c46
                      have c46b1 : (t144 != 29) = false := bne_eq_false_iff_eq.mpr c46
                      clear c46
                      replace H := Option.bind_eq_some_iff.mp H
                      obtain ⟨t145, A470, H⟩ := H
                      replace H : (some (t145.toList == ([50, 48, 48, 48, 45, 48, 50, 45, 50, 57] : List UInt8))) = some r := H
                      have A47 := Aside0.mk A470
                      clear A470
                      obtain rfl := Option.some.inj H
                      go_wp2_with (first | (go_at_call 15; (with_reducible refine (calendar_Weekday.calls 0 t140 _ A37.out).mono ?_); rintro e w' ⟨rfl, ⟨nd, rfl⟩⟩) | (go_at_call 15; (with_reducible refine (calendar_Weekday.calls 2 t141 _ A39.out).mono ?_); rintro e w' ⟨rfl, ⟨nd, rfl⟩⟩) | (go_at_call 17; (with_reducible refine (calendar_Month.calls 60 t142 _ A41.out (TabBefore.below hTBefore.out (by repeat (first | exact HB.out | exact Below.refl _ _ | apply below_alloc | apply pw_below_drewN | apply below_drew1 | apply below_drew)))).mono ?_); rintro e w48 ⟨rfl, hb⟩; have n0_ := Aside0.mk (below_step (by repeat (first | (with_reducible first | exact HB.out | apply below_alloc | apply pw_below_drewN | apply below_drew1) | exact HB.out)) hb); clear HB; have HB := n0_; clear n0_; (try clear hb); (try clear hb2); (try clear hk); (try clear hi)) | (go_at_call 21; (with_reducible refine (calendar_First.calls 2 t143 _ A43.out (TabBefore.below hTBefore.out (by repeat (first | exact HB.out | exact Below.refl _ _ | apply below_alloc | apply pw_below_drewN | apply below_drew1 | apply below_drew)))).mono ?_); rintro e w49 ⟨rfl, hb⟩; have n0_ := Aside0.mk (below_step (by repeat (first | (with_reducible first | exact HB.out | apply below_alloc | apply pw_below_drewN | apply below_drew1) | exact HB.out)) hb); clear HB; have HB := n0_; clear n0_; (try clear hb); (try clear hb2); (try clear hk); (try clear hi)) | (go_at_call 23; (with_reducible refine (calendar_Length.calls 1 t144 _ A45.out (TabBefore.below hTBefore.out (by repeat (first | exact HB.out | exact Below.refl _ _ | apply below_alloc | apply pw_below_drewN | apply below_drew1 | apply below_drew)))).mono ?_); rintro e w50 ⟨rfl, hb⟩; have n0_ := Aside0.mk (below_step (by repeat (first | (with_reducible first | exact HB.out | apply below_alloc | apply pw_below_drewN | apply below_drew1) | exact HB.out)) hb); clear HB; have HB := n0_; clear n0_; (try clear hb); (try clear hb2); (try clear hk); (try clear hi)) | (go_at_call 19; (with_reducible refine (calendar_Text.calls kj26 59 t145 _ A47.out (TabBefore.below hTBefore.out (by repeat (first | exact HB.out | exact Below.refl _ _ | apply below_alloc | apply pw_below_drewN | apply below_drew1 | apply below_drew)))).mono ?_); rintro e w51 ⟨rfl, hb⟩; have n0_ := Aside0.mk (below_step (by repeat (first | (with_reducible first | exact HB.out | apply below_alloc | apply pw_below_drewN | apply below_drew1) | exact HB.out)) hb); clear HB; have HB := n0_; clear n0_; (try clear hb); (try clear hb2); (try clear hk); (try clear hi)))
                      go_ret
                      exact ⟨by first | rfl | (simp [errW_none, errW_some] <;> rfl) | (simp [*, errW_none, errW_some] <;> rfl), by repeat (first | (with_reducible first | exact HB.out | apply below_alloc | apply pw_below_drewN | apply below_drew1) | exact HB.out)⟩
                    · rw [if_neg c46] at H
                      have c46b0 : (t144 == 29) = false := beq_eq_false_iff_ne.mpr c46
                      have c46b1 : (t144 != 29) = true := bne_iff_ne.mpr c46
                      obtain rfl := Option.some.inj H
                      go_wp2_with (first | (go_at_call 15; (with_reducible refine (calendar_Weekday.calls 0 t140 _ A37.out).mono ?_); rintro e w' ⟨rfl, ⟨nd, rfl⟩⟩) | (go_at_call 15; (with_reducible refine (calendar_Weekday.calls 2 t141 _ A39.out).mono ?_); rintro e w' ⟨rfl, ⟨nd, rfl⟩⟩) | (go_at_call 17; (with_reducible refine (calendar_Month.calls 60 t142 _ A41.out (TabBefore.below hTBefore.out (by repeat (first | exact HB.out | exact Below.refl _ _ | apply below_alloc | apply pw_below_drewN | apply below_drew1 | apply below_drew)))).mono ?_); rintro e w52 ⟨rfl, hb⟩; have n0_ := Aside0.mk (below_step (by repeat (first | (with_reducible first | exact HB.out | apply below_alloc | apply pw_below_drewN | apply below_drew1) | exact HB.out)) hb); clear HB; have HB := n0_; clear n0_; (try clear hb); (try clear hb2); (try clear hk); (try clear hi)) | (go_at_call 21; (with_reducible refine (calendar_First.calls 2 t143 _ A43.out (TabBefore.below hTBefore.out (by repeat (first | exact HB.out | exact Below.refl _ _ | apply below_alloc | apply pw_below_drewN | apply below_drew1 | apply below_drew)))).mono ?_); rintro e w53 ⟨rfl, hb⟩; have n0_ := Aside0.mk (below_step (by repeat (first | (with_reducible first | exact HB.out | apply below_alloc | apply pw_below_drewN | apply below_drew1) | exact HB.out)) hb); clear HB; have HB := n0_; clear n0_; (try clear hb); (try clear hb2); (try clear hk); (try clear hi)) | (go_at_call 23; (with_reducible refine (calendar_Length.calls 1 t144 _ A45.out (TabBefore.below hTBefore.out (by repeat (first | exact HB.out | exact Below.refl _ _ | apply below_alloc | apply pw_below_drewN | apply below_drew1 | apply below_drew)))).mono ?_); rintro e w54 ⟨rfl, hb⟩; have n0_ := Aside0.mk (below_step (by repeat (first | (with_reducible first | exact HB.out | apply below_alloc | apply pw_below_drewN | apply below_drew1) | exact HB.out)) hb); clear HB; have HB := n0_; clear n0_; (try clear hb); (try clear hb2); (try clear hk); (try clear hi)))
                      go_ret
                      exact ⟨by first | rfl | (simp [errW_none, errW_some] <;> rfl) | (simp [*, errW_none, errW_some] <;> rfl), by repeat (first | (with_reducible first | exact HB.out | apply below_alloc | apply pw_below_drewN | apply below_drew1) | exact HB.out)⟩
                  · rw [if_neg c44] at H
                    have c44b0 : (t143 == 60) = false := beq_eq_false_iff_ne.mpr c44
                    have c44b1 : (t143 != 60) = true := bne_iff_ne.mpr c44
                    obtain rfl := Option.some.inj H
                    go_wp2_with (first | (go_at_call 15; (with_reducible refine (calendar_Weekday.calls 0 t140 _ A37.out).mono ?_); rintro e w' ⟨rfl, ⟨nd, rfl⟩⟩) | (go_at_call 15; (with_reducible refine (calendar_Weekday.calls 2 t141 _ A39.out).mono ?_); rintro e w' ⟨rfl, ⟨nd, rfl⟩⟩) | (go_at_call 17; (with_reducible refine (calendar_Month.calls 60 t142 _ A41.out (TabBefore.below hTBefore.out (by repeat (first | exact HB.out | exact Below.refl _ _ | apply below_alloc | apply pw_below_drewN | apply below_drew1 | apply below_drew)))).mono ?_); rintro e w55 ⟨rfl, hb⟩; have n0_ := Aside0.mk (below_step (by repeat (first | (with_reducible first | exact HB.out | apply below_alloc | apply pw_below_drewN | apply below_drew1) | exact HB.out)) hb); clear HB; have HB := n0_; clear n0_; (try clear hb); (try clear hb2); (try clear hk); (try clear hi)) | (go_at_call 21; (with_reducible refine (calendar_First.calls 2 t143 _ A43.out (TabBefore.below hTBefore.out (by repeat (first | exact HB.out | exact Below.refl _ _ | apply below_alloc | apply pw_below_drewN | apply below_drew1 | apply below_drew)))).mono ?_); rintro e w56 ⟨rfl, hb⟩; have n0_ := Aside0.mk (below_step (by repeat (first | (with_reducible first | exact HB.out | apply below_alloc | apply pw_below_drewN | apply below_drew1) | exact HB.out)) hb); clear HB; have HB := n0_; clear n0_; (try clear hb); (try clear hb2); (try clear hk); (try clear hi)))
                    go_ret
                    exact ⟨by first | rfl | (simp [errW_none, errW_some] <;> rfl) | (simp [*, errW_none, errW_some] <;> rfl), by repeat (first | (with_reducible first | exact HB.out | apply below_alloc | apply pw_below_drewN | apply below_drew1) | exact HB.out)⟩
                · rw [if_neg c42] at H
                  have c42b0 : (t142 == 2) = false := beq_eq_false_iff_ne.mpr c42
                  have c42b1 : (t142 != 2) = true := bne_iff_ne.mpr c42
                  obtain rfl := Option.some.inj H
                  go_wp2_with (first | (go_at_call 15; (with_reducible refine (calendar_Weekday.calls 0 t140 _ A37.out).mono ?_); rintro e w' ⟨rfl, ⟨nd, rfl⟩⟩) | (go_at_call 15; (with_reducible refine (calendar_Weekday.calls 2 t141 _ A39.out).mono ?_); rintro e w' ⟨rfl, ⟨nd, rfl⟩⟩) | (go_at_call 17; (with_reducible refine (calendar_Month.calls 60 t142 _ A41.out (TabBefore.below hTBefore.out (by repeat (first | exact HB.out | exact Below.refl _ _ | apply below_alloc | apply pw_below_drewN | apply below_drew1 | apply below_drew)))).mono ?_); rintro e w57 ⟨rfl, hb⟩; have n0_ := Aside0.mk (below_step (by repeat (first | (with_reducible first | exact HB.out | apply below_alloc | apply pw_below_drewN | apply below_drew1) | exact HB.out)) hb); clear HB; have HB := n0_; clear n0_; (try clear hb); (try clear hb2); (try clear hk); (try clear hi)))
                  go_ret
                  exact ⟨by first | rfl | (simp [errW_none, errW_some] <;> rfl) | (simp [*, errW_none, errW_some] <;> rfl), by repeat (first | (with_reducible first | exact HB.out | apply below_alloc | apply pw_below_drewN | apply below_drew1) | exact HB.out)⟩
              · rw [if_neg c40] at H
                have c40b0 : (t141 == 1) = false := beq_eq_false_iff_ne.mpr c40
                have c40b1 : (t141 != 1) = true := bne_iff_ne.mpr c40
                obtain rfl := Option.some.inj H
                go_wp2_with (first | (go_at_call 15; (with_reducible refine (calendar_Weekday.calls 0 t140 _ A37.out).mono ?_); rintro e w' ⟨rfl, ⟨nd, rfl⟩⟩) | (go_at_call 15; (with_reducible refine (calendar_Weekday.calls 2 t141 _ A39.out).mono ?_); rintro e w' ⟨rfl, ⟨nd, rfl⟩⟩))
                go_ret
                exact ⟨by first | rfl | (simp [errW_none, errW_some] <;> rfl) | (simp [*, errW_none, errW_some] <;> rfl), by repeat (first | (with_reducible first | exact HB.out | apply below_alloc | apply pw_below_drewN | apply below_drew1) | exact HB.out)⟩
            · rw [if_neg c38] at H
              have c38b0 : (t140 == 6) = false := beq_eq_false_iff_ne.mpr c38
              have c38b1 : (t140 != 6) = true := bne_iff_ne.mpr c38
              obtain rfl := Option.some.inj H
              go_wp2_with (first | (go_at_call 15; (with_reducible refine (calendar_Weekday.calls 0 t140 _ A37.out).mono ?_); rintro e w' ⟨rfl, ⟨nd, rfl⟩⟩))
              go_ret
              exact ⟨by first | rfl | (simp [errW_none, errW_some] <;> rfl) | (simp [*, errW_none, errW_some] <;> rfl), by repeat (first | (with_reducible first | exact HB.out | apply below_alloc | apply pw_below_drewN | apply below_drew1) | exact HB.out)⟩
          · replace c36 := Bool.eq_false_iff.mpr c36
            subst c36
            have H1 : (some false) = some r := by rw [if_neg (show ¬ (false = true) by decide)] at H; exact H
            clear H
            have H := H1
            clear H1
            obtain rfl := Option.some.inj H
            go_wp2
            go_ret
            exact ⟨by first | rfl | (simp [errW_none, errW_some] <;> rfl) | (simp [*, errW_none, errW_some] <;> rfl), by repeat (first | (with_reducible first | exact HB.out | apply below_alloc | apply pw_below_drewN | apply below_drew1) | exact HB.out)⟩

/-! ### wageofficelaw02_pick: function 10 -/
def wageofficelaw02_pick.f (a0 : Int) (a1 : Int) : Option (Int) := if a0 < 0 then (if a1 = 0 then (none) else (some (Int.tmod (wrap64 (-(wrap64 (a0 + 1)))) a1))) else (if a1 = 0 then (none) else (some (Int.tmod a0 a1)))
set_option maxHeartbeats 8000000 in
set_option maxRecDepth 100000 in
theorem wageofficelaw02_pick.calls (a0 : Int) (a1 : Int) (r : Int) (w : World) (h : wageofficelaw02_pick.f a0 a1 = some r) :
    Calls Tryd.prog 10 #[.int .i64 a0, .int .i64 a1] w fun e w' => e = .returned (.int .i64 r) ∧ Drawn0 w w' := by
  have H : (if a0 < 0 then (if a1 = 0 then (none) else (some (Int.tmod (wrap64 (-(wrap64 (a0 + 1)))) a1))) else (if a1 = 0 then (none) else (some (Int.tmod a0 a1)))) = some r := h
  clear h
  by_cases c3 : a0 < 0
  · rw [if_pos c3] at H
    have c3b0 : decide (a0 < 0) = true := decide_eq_true c3
    clear c3
    by_cases c4 : a1 = 0
    · rw [if_pos c4] at H
      exact absurd H (by simp)
    · rw [if_neg c4] at H
      have c4b0 : (a1 == 0) = false := beq_eq_false_iff_ne.mpr c4
      have c4b1 : (a1 != 0) = true := bne_iff_ne.mpr c4
      obtain rfl := Option.some.inj H
      go_enter Tryd.func10, Tryd.ntmps10
      go_wp2
      go_ret
      exact ⟨by first | rfl | (simp; done) | (simp [*]; done), by repeat (first | exact Drawn0.refl _ | apply Drawn0.step)⟩
  · rw [if_neg c3] at H
    have c3b0 : decide (a0 < 0) = false := decide_eq_false c3
    clear c3
    by_cases c5 : a1 = 0
    · rw [if_pos c5] at H
      exact absurd H (by simp)
    · rw [if_neg c5] at H
      have c5b0 : (a1 == 0) = false := beq_eq_false_iff_ne.mpr c5
      have c5b1 : (a1 != 0) = true := bne_iff_ne.mpr c5
      obtain rfl := Option.some.inj H
      go_enter Tryd.func10, Tryd.ntmps10
      go_wp2
      go_ret
      exact ⟨by first | rfl | (simp; done) | (simp [*]; done), by repeat (first | exact Drawn0.refl _ | apply Drawn0.step)⟩

/-! ### wageofficeref02_Long: function 36 -/
def wageofficeref02_Long.f (a0 : Int) : Option (Bool) := if (Int.tmod a0 4) = 0 then (if (Int.tmod a0 100) = 0 then (some ((Int.tmod a0 400) == 0)) else (some true)) else (some false)
set_option maxHeartbeats 8000000 in
set_option maxRecDepth 100000 in
theorem wageofficeref02_Long.calls (a0 : Int) (r : Bool) (w : World) (h : wageofficeref02_Long.f a0 = some r) :
    Calls Tryd.prog 36 #[.int .i64 a0] w fun e w' => e = .returned (.bool r) ∧ Drawn0 w w' := by
  have H : (if (Int.tmod a0 4) = 0 then (if (Int.tmod a0 100) = 0 then (some ((Int.tmod a0 400) == 0)) else (some true)) else (some false)) = some r := h
  clear h
  by_cases c2 : (Int.tmod a0 4) = 0
  · rw [if_pos c2] at H
    have c2b0 : ((Int.tmod a0 4) == 0) = true := beq_iff_eq.mpr c2
    have c2b1 : ((Int.tmod a0 4) != 0) = false := bne_eq_false_iff_eq.mpr c2
    clear c2
    by_cases c3 : (Int.tmod a0 100) = 0
    · rw [if_pos c3] at H
      have c3b0 : ((Int.tmod a0 100) == 0) = true := beq_iff_eq.mpr c3
      have c3b1 : ((Int.tmod a0 100) != 0) = false := bne_eq_false_iff_eq.mpr c3
      clear c3
      obtain rfl := Option.some.inj H
      go_enter Tryd.func36, Tryd.ntmps36
      go_wp2
      go_ret
      exact ⟨by first | rfl | (simp; done) | (simp [*]; done), by repeat (first | exact Drawn0.refl _ | apply Drawn0.step)⟩
    · rw [if_neg c3] at H
      have c3b0 : ((Int.tmod a0 100) == 0) = false := beq_eq_false_iff_ne.mpr c3
      have c3b1 : ((Int.tmod a0 100) != 0) = true := bne_iff_ne.mpr c3
      obtain rfl := Option.some.inj H
      go_enter Tryd.func36, Tryd.ntmps36
      go_wp2
      go_ret
      exact ⟨by first | rfl | (simp; done) | (simp [*]; done), by repeat (first | exact Drawn0.refl _ | apply Drawn0.step)⟩
  · rw [if_neg c2] at H
    have c2b0 : ((Int.tmod a0 4) == 0) = false := beq_eq_false_iff_ne.mpr c2
    have c2b1 : ((Int.tmod a0 4) != 0) = true := bne_iff_ne.mpr c2
    obtain rfl := Option.some.inj H
    go_enter Tryd.func36, Tryd.ntmps36
    go_wp2
    go_ret
    exact ⟨by first | rfl | (simp; done) | (simp [*]; done), by repeat (first | exact Drawn0.refl _ | apply Drawn0.step)⟩

/-! ### wageofficeref02_Days: function 29 -/
def wageofficeref02_Days.j0 : Nat → Int → Int → Bool → Option (Int)
  | 0, _, _, _ => none
  | k + 1, x0, x5, x6 => if x6 = true then (some 30) else (if x5 = 2 then ((wageofficeref02_Long.f x0).bind fun t146 => (if t146 = true then (some 29) else (some 28))) else (some 31))
def wageofficeref02_Days.f (k : Nat) (a0 : Int) (a1 : Int) : Option (Int) := if a1 = 4 then (wageofficeref02_Days.j0 k a0 a1 (a1 == 4)) else (if a1 = 6 then (wageofficeref02_Days.j0 k a0 a1 (a1 == 6)) else (if a1 = 9 then (wageofficeref02_Days.j0 k a0 a1 (a1 == 9)) else (wageofficeref02_Days.j0 k a0 a1 (a1 == 11))))
theorem wageofficeref02_Days.mono_l : ∀ k, (∀ y0 y1 y2, LeO (wageofficeref02_Days.j0 k y0 y1 y2) (wageofficeref02_Days.j0 (k + 1) y0 y1 y2))
  | 0 => fun _ _ _ r h => by simp [wageofficeref02_Days.j0] at h
  | k + 1 => by
    have ih0 := wageofficeref02_Days.mono_l k
    · intro y0 y1 y2
      unfold wageofficeref02_Days.j0
      repeat' first
      | (with_reducible exact ih0 _ _ _)
      | (with_reducible exact LeO.refl _)
      | (with_reducible exact LeO.none _)
      | (with_reducible refine LeO.ite ?_ ?_)
      | (with_reducible refine LeO.bind ?_ (fun _ => ?_))
      | exact ih0 _ _ _
      | exact LeO.none _
      | refine LeO.ite ?_ ?_
      | refine LeO.bind ?_ (fun _ => ?_)
theorem wageofficeref02_Days.mono : ∀ a0 a1 k, LeO (wageofficeref02_Days.f k a0 a1) (wageofficeref02_Days.f (k + 1) a0 a1) := by
  intro a0 a1 k
  have ih0 := wageofficeref02_Days.mono_l k
  unfold wageofficeref02_Days.f
  repeat' first
      | (with_reducible exact ih0 _ _ _)
      | (with_reducible exact LeO.refl _)
      | (with_reducible exact LeO.none _)
      | (with_reducible refine LeO.ite ?_ ?_)
      | (with_reducible refine LeO.bind ?_ (fun _ => ?_))
      | exact ih0 _ _ _
      | exact LeO.none _
      | refine LeO.ite ?_ ?_
      | refine LeO.bind ?_ (fun _ => ?_)
set_option maxHeartbeats 8000000 in
set_option maxRecDepth 100000 in
theorem wageofficeref02_Days.calls (k : Nat) (a0 : Int) (a1 : Int) (r : Int) (w : World) (h : wageofficeref02_Days.f k a0 a1 = some r) :
    Calls Tryd.prog 29 #[.int .i64 a0, .int .i64 a1] w fun e w' => e = .returned (.int .i64 r) ∧ Drawn0 w w' := by
  have H : (if a1 = 4 then (wageofficeref02_Days.j0 k a0 a1 (a1 == 4)) else (if a1 = 6 then (wageofficeref02_Days.j0 k a0 a1 (a1 == 6)) else (if a1 = 9 then (wageofficeref02_Days.j0 k a0 a1 (a1 == 9)) else (wageofficeref02_Days.j0 k a0 a1 (a1 == 11))))) = some r := h
  clear h
  have HC3 := Aside0.mk H
  clear H
  go_enter Tryd.func29, Tryd.ntmps29
  go_upto_if 6 with (fail)
  go_cut [6] (fun v6 wc => ∃ (kq : Nat) (x6_2 : Bool), v6 = .bool x6_2 ∧ Aside0 (wageofficeref02_Days.j0 kq a0 a1 x6_2 = some r) ∧ Aside0 (kq ≤ k) ∧ Drawn0 w wc)
  case first =>
    have H := HC3.out
    clear HC3
    by_cases c4 : a1 = 4
    · rw [if_pos c4] at H
      have c4b0 : (a1 == 4) = true := beq_iff_eq.mpr c4
      have c4b1 : (a1 != 4) = false := bne_eq_false_iff_eq.mpr c4
      clear c4
      (first | rw [c4b0] | (simp only [i64_w, i32_w]; rw [c4b0]) | skip)
      have H' := Aside0.mk H
      clear H
      go_wp2
      go_meet
      case rel => exact ⟨_, ((a1 == 4)), (by first | rfl | (simp; done) | (simp [*]; done)), H', ⟨by first | omega | exact Nat.le_refl _⟩, by repeat (first | exact Drawn0.refl _ | apply Drawn0.step)⟩
    · rw [if_neg c4] at H
      have c4b0 : (a1 == 4) = false := beq_eq_false_iff_ne.mpr c4
      have c4b1 : (a1 != 4) = true := bne_iff_ne.mpr c4
      (first | rw [c4b0] | (simp only [i64_w, i32_w]; rw [c4b0]) | skip)
      by_cases c5 : a1 = 6
      · rw [if_pos c5] at H
        have c5b0 : (a1 == 6) = true := beq_iff_eq.mpr c5
        have c5b1 : (a1 != 6) = false := bne_eq_false_iff_eq.mpr c5
        clear c5
        have H' := Aside0.mk H
        clear H
        go_wp2
        go_meet
        case rel => exact ⟨_, ((a1 == 6)), (by first | rfl | (simp; done) | (simp [*]; done)), H', ⟨by first | omega | exact Nat.le_refl _⟩, by repeat (first | exact Drawn0.refl _ | apply Drawn0.step)⟩
      · rw [if_neg c5] at H
        have c5b0 : (a1 == 6) = false := beq_eq_false_iff_ne.mpr c5
        have c5b1 : (a1 != 6) = true := bne_iff_ne.mpr c5
        by_cases c6 : a1 = 9
        · rw [if_pos c6] at H
          have c6b0 : (a1 == 9) = true := beq_iff_eq.mpr c6
          have c6b1 : (a1 != 9) = false := bne_eq_false_iff_eq.mpr c6
          clear c6
          have H' := Aside0.mk H
          clear H
          go_wp2
          go_meet
          case rel => exact ⟨_, ((a1 == 9)), (by first | rfl | (simp; done) | (simp [*]; done)), H', ⟨by first | omega | exact Nat.le_refl _⟩, by repeat (first | exact Drawn0.refl _ | apply Drawn0.step)⟩
        · rw [if_neg c6] at H
          have c6b0 : (a1 == 9) = false := beq_eq_false_iff_ne.mpr c6
          have c6b1 : (a1 != 9) = true := bne_iff_ne.mpr c6
          have H' := Aside0.mk H
          clear H
          go_wp2
          go_meet
          case rel => exact ⟨_, ((a1 == 11)), (by first | rfl | (simp; done) | (simp [*]; done)), H', ⟨by first | omega | exact Nat.le_refl _⟩, by repeat (first | exact Drawn0.refl _ | apply Drawn0.step)⟩
  case rest =>
    clear HC3
    try clear c2
    try clear p2
    try clear c4
    try clear c4b0
    try clear c4b1
    try clear c5
    try clear c5b0
    try clear c5b1
    try clear c6
    try clear c6b0
    try clear c6b1
    obtain ⟨kq, x6_2, rfl, HA, HJ2, ⟨mc2, rfl⟩⟩ := hcut
    cases kq with
    | zero => exact absurd HA.out (by simp [wageofficeref02_Days.j0])
    | succ kj2 =>
      have H := HA.out
      clear HA
      simp only [wageofficeref02_Days.j0] at H
      by_cases c7 : x6_2 = true
      · subst c7
        have H1 : (some 30) = some r := by rw [if_pos rfl] at H; exact H
        clear H
        have H := H1
        clear H1
        obtain rfl := Option.some.inj H
        go_wp2
        go_ret
        exact ⟨by first | rfl | (simp; done) | (simp [*]; done), by repeat (first | exact Drawn0.refl _ | apply Drawn0.step)⟩
      · replace c7 := Bool.eq_false_iff.mpr c7
        subst c7
        have H1 : (if a1 = 2 then ((wageofficeref02_Long.f a0).bind fun t146 => (if t146 = true then (some 29) else (some 28))) else (some 31)) = some r := by rw [if_neg (show ¬ (false = true) by decide)] at H; exact H
        clear H
        have H := H1
        clear H1
        by_cases c8 : a1 = 2
        · rw [if_pos c8] at H
          have c8b0 : (a1 == 2) = true := beq_iff_eq.mpr c8
          have c8b1 : (a1 != 2) = false := bne_eq_false_iff_eq.mpr c8
          clear c8
          replace H := Option.bind_eq_some_iff.mp H
          obtain ⟨t146, A90, H⟩ := H
          replace H : (if t146 = true then (some 29) else (some 28)) = some r := H
          have A9 := Aside0.mk A90
          clear A90
          by_cases c10 : t146 = true
          · subst c10
            have H1 : (some 29) = some r := by rw [if_pos rfl] at H; exact H
            clear H
            have H := H1
            clear H1
            obtain rfl := Option.some.inj H
            go_wp2_with (first | ((with_reducible refine gate_callee (f := 36) rfl ?_); refine goesL_ (some 14) rfl rfl Tryd.func36 (by kernel_rfl) rfl #[.int .i64 a0] rfl (by (try simp only [List.map_toArray, List.map_cons, List.map_nil]); first | done | rfl | (simp only [List.length_drop, List.length_take]; rfl)) ?_; (with_reducible refine (wageofficeref02_Long.calls a0 true _ A9.out).mono ?_); rintro e w' ⟨rfl, ⟨nd, rfl⟩⟩; refine ⟨_, rfl, ?_⟩))
            go_ret
            exact ⟨by first | rfl | (simp; done) | (simp [*]; done), by repeat (first | exact Drawn0.refl _ | apply Drawn0.step)⟩
          · replace c10 := Bool.eq_false_iff.mpr c10
            subst c10
            have H1 : (some 28) = some r := by rw [if_neg (show ¬ (false = true) by decide)] at H; exact H
            clear H
            have H := H1
            clear H1
            obtain rfl := Option.some.inj H
            go_wp2_with (first | ((with_reducible refine gate_callee (f := 36) rfl ?_); refine goesL_ (some 14) rfl rfl Tryd.func36 (by kernel_rfl) rfl #[.int .i64 a0] rfl (by (try simp only [List.map_toArray, List.map_cons, List.map_nil]); first | done | rfl | (simp only [List.length_drop, List.length_take]; rfl)) ?_; (with_reducible refine (wageofficeref02_Long.calls a0 false _ A9.out).mono ?_); rintro e w' ⟨rfl, ⟨nd, rfl⟩⟩; refine ⟨_, rfl, ?_⟩))
            go_ret
            exact ⟨by first | rfl | (simp; done) | (simp [*]; done), by repeat (first | exact Drawn0.refl _ | apply Drawn0.step)⟩
        · rw [if_neg c8] at H
          have c8b0 : (a1 == 2) = false := beq_eq_false_iff_ne.mpr c8
          have c8b1 : (a1 != 2) = true := bne_iff_ne.mpr c8
          obtain rfl := Option.some.inj H
          go_wp2
          go_ret
          exact ⟨by first | rfl | (simp; done) | (simp [*]; done), by repeat (first | exact Drawn0.refl _ | apply Drawn0.step)⟩

end Go.Proofs.YthakhcnpiobpgaaDoor.PAll
