-- Written by myprint.py over the kit's print.py (a printed text of this session's own make).
import Derived.Test.YthakhcnpiobpgaaDoorProg
import Derived.Below
import Derived.Deep.Draws
import Derived.Deep.AppendLies
import Derived.Maps.AppendAt
import Derived.OwnWalk
import Derived.Laws.BytesArg
import Derived.Laws.MakeOwn
import Derived.Laws.OwnMore
import Derived.Deep.OwnRows
import Derived.Tactics
import Derived.Lib.ConvBytes
import Derived.Laws.Slices
import Derived.WalkKit
import Derived.KernelRfl
import Derived.RowKit3
import Derived.Deep.LoopGhost
import Derived.Deep.QuietTactic
import Derived.BigQuiet
import Derived.WideLaws
import Derived.Deep.DeepCutAuto
import Derived.Deep.CutBlock
import Derived.Deep.RegionHeld3
import Derived.Laws.Rows
import Derived.Lib.AppendStr
import Derived.ArgAppend
import Derived.Laws.IdiomCopy
import Derived.OrdersHeld
import Derived.Laws.BitsLemmas
import Derived.RowKit
import Derived.Test.YthakhcnpiobpgaaDoorWWords
import Derived.Test.YthakhcnpiobpgaaDoorWLast
import Derived.Test.YthakhcnpiobpgaaDoorWTab
import Derived.Test.YthakhcnpiobpgaaDoorWFour
import Derived.Test.YthakhcnpiobpgaaDoorWQPut
import Derived.Test.YthakhcnpiobpgaaDoorWApart
import Derived.Test.YthakhcnpiobpgaaDoorWArr
import Derived.Test.YthakhcnpiobpgaaDoorWZeros
import Derived.Test.YthakhcnpiobpgaaDoorWFoot
import Derived.Test.YthakhcnpiobpgaaDoorWKept
import Derived.Test.YthakhcnpiobpgaaDoorWShare
import Derived.Test.YthakhcnpiobpgaaDoorWN
import Derived.Test.YthakhcnpiobpgaaDoorWFootNe
import Derived.Test.YthakhcnpiobpgaaDoorWAt
import Derived.Test.YthakhcnpiobpgaaDoorWEqStruct
import Derived.Test.YthakhcnpiobpgaaDoorWRepsOne
import Derived.Test.YthakhcnpiobpgaaDoorWInv
import Derived.Test.YthakhcnpiobpgaaDoorWInvWords
import Derived.Test.YthakhcnpiobpgaaDoorWGuard
import Derived.Test.YthakhcnpiobpgaaDoorWNEv
import Derived.Test.YthakhcnpiobpgaaDoorWMore
import Derived.Test.YthakhcnpiobpgaaDoorStubCal
namespace Go.Proofs.YthakhcnpiobpgaaDoor.PAll
open Go.Proofs.YthakhcnpiobpgaaDoor.Stub Go.Proofs.YthakhcnpiobpgaaDoor.CalA
open Go.RowKit Go.Proofs.YthakhcnpiobpgaaDoorW.PrintWords Go.Proofs.YthakhcnpiobpgaaDoorW.PrintLast Go.Proofs.YthakhcnpiobpgaaDoorW.PrintMore
attribute [local go_sem] max2_int min2_int max_two min_two max_three min_three max_four min_four   -- for this text's walks alone
set_option linter.unusedVariables false
set_option linter.unusedSimpArgs false



def errW : Option Int → Value
  | none => .nilIface
  | some c => .iface 0 (.int .i64 c)
theorem errW_none : errW none = .nilIface := rfl
theorem errW_some (c : Int) : errW (some c) = .iface 0 (.int .i64 c) := rfl

theorem info3 : (Tryd.prog.info? 3).map (fun i => (i.zero, i.size, i.bytes)) = some (some (.int .i64 0), 1, 8) := by kernel_rfl
theorem info5 : (Tryd.prog.info? 5).map (fun i => (i.zero, i.size, i.bytes)) = some (some (.int .u8 0), 1, 1) := by kernel_rfl
theorem info22 : (Tryd.prog.info? 22).map (fun i => (i.zero, i.size, i.bytes)) = some (some (.agg #[(.int .i64 0), (.int .i64 0), (.int .i64 0)]), 3, 24) := by kernel_rfl
-- the values' own types
/-! #### struct type 22 -/
structure S22 where
  f0 : Int
  f1 : Int
  f2 : Int
def z22 : S22 := ⟨(0 : Int), (0 : Int), (0 : Int)⟩
def k22 : Kd S22 := Kd.iso (Kd.pair (Kd.int .i64) (Kd.pair (Kd.int .i64) (Kd.int .i64))) (fun x : S22 => (x.f0, x.f1, x.f2))
theorem k22_open {w : World} {x : S22} {cs : List Value} (h : k22.K w x cs) : cs = [.int .i64 x.f0, .int .i64 x.f1, .int .i64 x.f2] := by
  obtain ⟨_, _, rfl, rfl, ⟨_, _, rfl, rfl, rfl⟩⟩ := h
  exact rfl
theorem k22_openM {w : World} {base : Nat} {ok : Nat → Prop} {x : S22} {cs : List Value} (h : k22.M w base ok x cs) : cs = [.int .i64 x.f0, .int .i64 x.f1, .int .i64 x.f2] := by
  obtain ⟨_, _, rfl, rfl, ⟨_, _, rfl, rfl, rfl⟩⟩ := h
  exact rfl
theorem k22_mk (w : World) (x : S22)  : k22.K w x [.int .i64 x.f0, .int .i64 x.f1, .int .i64 x.f2] := ⟨[.int .i64 x.f0], [.int .i64 x.f1, .int .i64 x.f2], rfl, rfl, ⟨[.int .i64 x.f1], [.int .i64 x.f2], rfl, rfl, rfl⟩⟩
theorem k22_mkM (w : World) (base : Nat) (ok : Nat → Prop) (x : S22)  : k22.M w base ok x [.int .i64 x.f0, .int .i64 x.f1, .int .i64 x.f2] := ⟨[.int .i64 x.f0], [.int .i64 x.f1, .int .i64 x.f2], rfl, rfl, ⟨[.int .i64 x.f1], [.int .i64 x.f2], rfl, rfl, rfl⟩⟩
def rd_T22 (xs : List S22) (i : Int) : S22 := xs.getD i.toNat z22
theorem at_T22 {w : World} {A : Option Addr} {n : Nat} {xs : List S22} (h : Kd.C k22 w A n xs) (i : Int) (h0 : 0 ≤ i) (h1 : i < n) : ∃ ad , A = some ad ∧ w.cell? (ad.add (i.toNat * 3)) = some (.int .i64 (rd_T22 xs i).f0) ∧ w.cell? ⟨(ad.add (i.toNat * 3)).block, (ad.add (i.toNat * 3)).off + 1, none⟩ = some (.int .i64 (rd_T22 xs i).f1) ∧ w.cell? ⟨(ad.add (i.toNat * 3)).block, (ad.add (i.toNat * 3)).off + 2, none⟩ = some (.int .i64 (rd_T22 xs i).f2) := by
  obtain ⟨ad, c, e, _, hK, hc0⟩ := Kd.C_get h z22 i h0 h1
  have hc : ∀ j u, c[j]? = some u → w.cell? (ad.add (i.toNat * 3 + j)) = some u := hc0
  obtain rfl := k22_open hK
  exact ⟨ad, e, hc 0 _ rfl, by rw [← add_field _ _ 1 (by omega)]; exact hc 1 _ rfl, by rw [← add_field _ _ 2 (by omega)]; exact hc 2 _ rfl⟩

end Go.Proofs.YthakhcnpiobpgaaDoor.PAll
