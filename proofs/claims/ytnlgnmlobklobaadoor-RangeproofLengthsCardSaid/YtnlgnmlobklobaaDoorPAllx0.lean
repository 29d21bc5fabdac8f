-- Written by myprint.py over the kit's print.py (a printed text of this session's own make).
import Derived.Test.YtnlgnmlobklobaaDoorProg
import Derived.Below
import Derived.Deep.Draws
import Derived.Deep.AppendLies
import Derived.Maps.AppendAt
import Derived.OwnWalk
import Derived.Laws.BytesArg
import Derived.Laws.MakeOwn
import Derived.Laws.OwnMore
import Derived.Deep.OwnRows
import Derived.Tactics
import Derived.Lib.ConvBytes
import Derived.Laws.Slices
import Derived.WalkKit
import Derived.KernelRfl
import Derived.RowKit3
import Derived.Deep.LoopGhost
import Derived.Deep.QuietTactic
import Derived.BigQuiet
import Derived.WideLaws
import Derived.Deep.DeepCutAuto
import Derived.Deep.CutBlock
import Derived.Deep.RegionHeld3
import Derived.Laws.Rows
import Derived.Lib.AppendStr
import Derived.ArgAppend
import Derived.Laws.IdiomCopy
import Derived.OrdersHeld
import Derived.Laws.BitsLemmas
import Derived.RowKit
import Derived.Test.YtnlgnmlobklobaaDoorWWords
import Derived.Test.YtnlgnmlobklobaaDoorWLast
import Derived.Test.YtnlgnmlobklobaaDoorWTab
import Derived.Test.YtnlgnmlobklobaaDoorWFour
import Derived.Test.YtnlgnmlobklobaaDoorWQPut
import Derived.Test.YtnlgnmlobklobaaDoorWApart
import Derived.Test.YtnlgnmlobklobaaDoorWArr
import Derived.Test.YtnlgnmlobklobaaDoorWZeros
import Derived.Test.YtnlgnmlobklobaaDoorWFoot
import Derived.Test.YtnlgnmlobklobaaDoorWKept
import Derived.Test.YtnlgnmlobklobaaDoorWShare
import Derived.Test.YtnlgnmlobklobaaDoorWN
import Derived.Test.YtnlgnmlobklobaaDoorWFootNe
import Derived.Test.YtnlgnmlobklobaaDoorWAt
import Derived.Test.YtnlgnmlobklobaaDoorWEqStruct
import Derived.Test.YtnlgnmlobklobaaDoorWRepsOne
import Derived.Test.YtnlgnmlobklobaaDoorWInv
import Derived.Test.YtnlgnmlobklobaaDoorWInvWords
import Derived.Test.YtnlgnmlobklobaaDoorWGuard
import Derived.Test.YtnlgnmlobklobaaDoorWNEv
import Derived.Test.YtnlgnmlobklobaaDoorWMore
import Derived.Test.YtnlgnmlobklobaaDoorStubRp
namespace Go.Proofs.YtnlgnmlobklobaaDoor.PAll
open Go.Proofs.YtnlgnmlobklobaaDoor.Stub Go.Proofs.YtnlgnmlobklobaaDoor.Com Go.Proofs.YtnlgnmlobklobaaDoor.Hash
open Go.RowKit Go.Proofs.YtnlgnmlobklobaaDoorW.PrintWords Go.Proofs.YtnlgnmlobklobaaDoorW.PrintLast Go.Proofs.YtnlgnmlobklobaaDoorW.PrintMore
attribute [local go_sem] max2_int min2_int max_two min_two max_three min_three max_four min_four   -- for this text's walks alone
set_option linter.unusedVariables false
set_option linter.unusedSimpArgs false



def errW : Option Int → Value
  | none => .nilIface
  | some c => .iface 0 (.int .i64 c)
theorem errW_none : errW none = .nilIface := rfl
theorem errW_some (c : Int) : errW (some c) = .iface 0 (.int .i64 c) := rfl

theorem info3 : (Tryd.prog.info? 3).map (fun i => (i.zero, i.size, i.bytes)) = some (some (.int .i64 0), 1, 8) := by kernel_rfl
theorem info5 : (Tryd.prog.info? 5).map (fun i => (i.zero, i.size, i.bytes)) = some (some (.int .u8 0), 1, 1) := by kernel_rfl
theorem info25 : (Tryd.prog.info? 25).map (fun i => (i.zero, i.size, i.bytes)) = some (some (.agg #[(.int .i64 0), (.int .i64 0), (.int .i64 0), (.int .i64 0), (.int .i64 0), (.int .i64 0), (.int .i64 0)]), 7, 56) := by kernel_rfl
-- the values' own types
/-! #### struct type 23 -/
structure S23 where
  f0 : Int
  f1 : Int
def z23 : S23 := ⟨(0 : Int), (0 : Int)⟩
def k23 : Kd S23 := Kd.iso (Kd.pair (Kd.int .i64) (Kd.int .i64)) (fun x : S23 => (x.f0, x.f1))
theorem k23_open {w : World} {x : S23} {cs : List Value} (h : k23.K w x cs) : cs = [.int .i64 x.f0, .int .i64 x.f1] := by
  obtain ⟨_, _, rfl, rfl, rfl⟩ := h
  exact rfl
theorem k23_openM {w : World} {base : Nat} {ok : Nat → Prop} {x : S23} {cs : List Value} (h : k23.M w base ok x cs) : cs = [.int .i64 x.f0, .int .i64 x.f1] := by
  obtain ⟨_, _, rfl, rfl, rfl⟩ := h
  exact rfl
theorem k23_mk (w : World) (x : S23)  : k23.K w x [.int .i64 x.f0, .int .i64 x.f1] := ⟨[.int .i64 x.f0], [.int .i64 x.f1], rfl, rfl, rfl⟩
theorem k23_mkM (w : World) (base : Nat) (ok : Nat → Prop) (x : S23)  : k23.M w base ok x [.int .i64 x.f0, .int .i64 x.f1] := ⟨[.int .i64 x.f0], [.int .i64 x.f1], rfl, rfl, rfl⟩
def rd_T23 (xs : List S23) (i : Int) : S23 := xs.getD i.toNat z23
theorem at_T23 {w : World} {A : Option Addr} {n : Nat} {xs : List S23} (h : Kd.C k23 w A n xs) (i : Int) (h0 : 0 ≤ i) (h1 : i < n) : ∃ ad , A = some ad ∧ w.cell? (ad.add (i.toNat * 2)) = some (.int .i64 (rd_T23 xs i).f0) ∧ w.cell? ⟨(ad.add (i.toNat * 2)).block, (ad.add (i.toNat * 2)).off + 1, none⟩ = some (.int .i64 (rd_T23 xs i).f1) := by
  obtain ⟨ad, c, e, _, hK, hc0⟩ := Kd.C_get h z23 i h0 h1
  have hc : ∀ j u, c[j]? = some u → w.cell? (ad.add (i.toNat * 2 + j)) = some u := hc0
  obtain rfl := k23_open hK
  exact ⟨ad, e, hc 0 _ rfl, by rw [← add_field _ _ 1 (by omega)]; exact hc 1 _ rfl⟩

/-! #### struct type 25 -/
structure S25 where
  f0 : Int
  f1 : S23
  f2 : S23
  f3 : S23
def z25 : S25 := ⟨(0 : Int), z23, z23, z23⟩
def k25 : Kd S25 := Kd.iso (Kd.pair (Kd.int .i64) (Kd.pair k23 (Kd.pair k23 k23))) (fun x : S25 => (x.f0, x.f1, x.f2, x.f3))
theorem k25_open {w : World} {x : S25} {cs : List Value} (h : k25.K w x cs) : cs = [.int .i64 x.f0, .int .i64 x.f1.f0, .int .i64 x.f1.f1, .int .i64 x.f2.f0, .int .i64 x.f2.f1, .int .i64 x.f3.f0, .int .i64 x.f3.f1] := by
  obtain ⟨_, _, rfl, rfl, ⟨_, _, rfl, s1, ⟨_, _, rfl, s3, s5⟩⟩⟩ := h
  obtain rfl := k23_open s1
  obtain rfl := k23_open s3
  obtain rfl := k23_open s5
  exact rfl
theorem k25_openM {w : World} {base : Nat} {ok : Nat → Prop} {x : S25} {cs : List Value} (h : k25.M w base ok x cs) : cs = [.int .i64 x.f0, .int .i64 x.f1.f0, .int .i64 x.f1.f1, .int .i64 x.f2.f0, .int .i64 x.f2.f1, .int .i64 x.f3.f0, .int .i64 x.f3.f1] := by
  obtain ⟨_, _, rfl, rfl, ⟨_, _, rfl, s1, ⟨_, _, rfl, s3, s5⟩⟩⟩ := h
  obtain rfl := k23_openM s1
  obtain rfl := k23_openM s3
  obtain rfl := k23_openM s5
  exact rfl
theorem k25_mk (w : World) (x : S25)  : k25.K w x [.int .i64 x.f0, .int .i64 x.f1.f0, .int .i64 x.f1.f1, .int .i64 x.f2.f0, .int .i64 x.f2.f1, .int .i64 x.f3.f0, .int .i64 x.f3.f1] := ⟨[.int .i64 x.f0], [.int .i64 x.f1.f0, .int .i64 x.f1.f1, .int .i64 x.f2.f0, .int .i64 x.f2.f1, .int .i64 x.f3.f0, .int .i64 x.f3.f1], rfl, rfl, ⟨[.int .i64 x.f1.f0, .int .i64 x.f1.f1], [.int .i64 x.f2.f0, .int .i64 x.f2.f1, .int .i64 x.f3.f0, .int .i64 x.f3.f1], rfl, (k23_mk w x.f1 ), ⟨[.int .i64 x.f2.f0, .int .i64 x.f2.f1], [.int .i64 x.f3.f0, .int .i64 x.f3.f1], rfl, (k23_mk w x.f2 ), (k23_mk w x.f3 )⟩⟩⟩
theorem k25_mkM (w : World) (base : Nat) (ok : Nat → Prop) (x : S25)  : k25.M w base ok x [.int .i64 x.f0, .int .i64 x.f1.f0, .int .i64 x.f1.f1, .int .i64 x.f2.f0, .int .i64 x.f2.f1, .int .i64 x.f3.f0, .int .i64 x.f3.f1] := ⟨[.int .i64 x.f0], [.int .i64 x.f1.f0, .int .i64 x.f1.f1, .int .i64 x.f2.f0, .int .i64 x.f2.f1, .int .i64 x.f3.f0, .int .i64 x.f3.f1], rfl, rfl, ⟨[.int .i64 x.f1.f0, .int .i64 x.f1.f1], [.int .i64 x.f2.f0, .int .i64 x.f2.f1, .int .i64 x.f3.f0, .int .i64 x.f3.f1], rfl, (k23_mkM w base ok x.f1 ), ⟨[.int .i64 x.f2.f0, .int .i64 x.f2.f1], [.int .i64 x.f3.f0, .int .i64 x.f3.f1], rfl, (k23_mkM w base ok x.f2 ), (k23_mkM w base ok x.f3 )⟩⟩⟩
def rd_T25 (xs : List S25) (i : Int) : S25 := xs.getD i.toNat z25
theorem at_T25 {w : World} {A : Option Addr} {n : Nat} {xs : List S25} (h : Kd.C k25 w A n xs) (i : Int) (h0 : 0 ≤ i) (h1 : i < n) : ∃ ad , A = some ad ∧ w.cell? (ad.add (i.toNat * 7)) = some (.int .i64 (rd_T25 xs i).f0) ∧ w.cell? ⟨(ad.add (i.toNat * 7)).block, (ad.add (i.toNat * 7)).off + 1, none⟩ = some (.int .i64 (rd_T25 xs i).f1.f0) ∧ w.cell? ⟨(ad.add (i.toNat * 7)).block, (ad.add (i.toNat * 7)).off + 2, none⟩ = some (.int .i64 (rd_T25 xs i).f1.f1) ∧ w.cell? ⟨(ad.add (i.toNat * 7)).block, (ad.add (i.toNat * 7)).off + 3, none⟩ = some (.int .i64 (rd_T25 xs i).f2.f0) ∧ w.cell? ⟨(ad.add (i.toNat * 7)).block, (ad.add (i.toNat * 7)).off + 4, none⟩ = some (.int .i64 (rd_T25 xs i).f2.f1) ∧ w.cell? ⟨(ad.add (i.toNat * 7)).block, (ad.add (i.toNat * 7)).off + 5, none⟩ = some (.int .i64 (rd_T25 xs i).f3.f0) ∧ w.cell? ⟨(ad.add (i.toNat * 7)).block, (ad.add (i.toNat * 7)).off + 6, none⟩ = some (.int .i64 (rd_T25 xs i).f3.f1) := by
  obtain ⟨ad, c, e, _, hK, hc0⟩ := Kd.C_get h z25 i h0 h1
  have hc : ∀ j u, c[j]? = some u → w.cell? (ad.add (i.toNat * 7 + j)) = some u := hc0
  obtain rfl := k25_open hK
  exact ⟨ad, e, hc 0 _ rfl, by rw [← add_field _ _ 1 (by omega)]; exact hc 1 _ rfl, by rw [← add_field _ _ 2 (by omega)]; exact hc 2 _ rfl, by rw [← add_field _ _ 3 (by omega)]; exact hc 3 _ rfl, by rw [← add_field _ _ 4 (by omega)]; exact hc 4 _ rfl, by rw [← add_field _ _ 5 (by omega)]; exact hc 5 _ rfl, by rw [← add_field _ _ 6 (by omega)]; exact hc 6 _ rfl⟩

end Go.Proofs.YtnlgnmlobklobaaDoor.PAll
