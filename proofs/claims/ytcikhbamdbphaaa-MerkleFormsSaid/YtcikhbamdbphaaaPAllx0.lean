-- Written by myprint.py over the kit's print.py (a printed text of this session's own make).
import Derived.Test.YtcikhbamdbphaaaProg
import Derived.Below
import Derived.Deep.Draws
import Derived.Deep.AppendLies
import Derived.Maps.AppendAt
import Derived.OwnWalk
import Derived.Laws.BytesArg
import Derived.Laws.MakeOwn
import Derived.Laws.OwnMore
import Derived.Deep.OwnRows
import Derived.Tactics
import Derived.Lib.ConvBytes
import Derived.Laws.Slices
import Derived.WalkKit
import Derived.KernelRfl
import Derived.RowKit3
import Derived.Deep.LoopGhost
import Derived.Deep.QuietTactic
import Derived.BigQuiet
import Derived.WideLaws
import Derived.Deep.DeepCutAuto
import Derived.Deep.CutBlock
import Derived.Deep.RegionHeld3
import Derived.Laws.Rows
import Derived.Lib.AppendStr
import Derived.ArgAppend
import Derived.Laws.IdiomCopy
import Derived.OrdersHeld
import Derived.Laws.BitsLemmas
import Derived.RowKit
import Derived.Test.YtcikhbamdbphaaaWWords
import Derived.Test.YtcikhbamdbphaaaWLast
import Derived.Test.YtcikhbamdbphaaaWTab
import Derived.Test.YtcikhbamdbphaaaWFour
import Derived.Test.YtcikhbamdbphaaaWQPut
import Derived.Test.YtcikhbamdbphaaaWApart
import Derived.Test.YtcikhbamdbphaaaWArr
import Derived.Test.YtcikhbamdbphaaaWZeros
import Derived.Test.YtcikhbamdbphaaaWFoot
import Derived.Test.YtcikhbamdbphaaaWKept
import Derived.Test.YtcikhbamdbphaaaWShare
import Derived.Test.YtcikhbamdbphaaaWN
import Derived.Test.YtcikhbamdbphaaaWFootNe
import Derived.Test.YtcikhbamdbphaaaWAt
import Derived.Test.YtcikhbamdbphaaaWEqStruct
import Derived.Test.YtcikhbamdbphaaaWRepsOne
import Derived.Test.YtcikhbamdbphaaaWInv
import Derived.Test.YtcikhbamdbphaaaWInvWords
import Derived.Test.YtcikhbamdbphaaaWGuard
import Derived.Test.YtcikhbamdbphaaaWNEv
import Derived.Test.YtcikhbamdbphaaaWMore
import Derived.Test.YtcikhbamdbphaaaStubDg
namespace Go.Proofs.Ytcikhbamdbphaaa.PAll
open Go.Proofs.Ytcikhbamdbphaaa.Stub
open Go.RowKit Go.Proofs.YtcikhbamdbphaaaW.PrintWords Go.Proofs.YtcikhbamdbphaaaW.PrintLast Go.Proofs.YtcikhbamdbphaaaW.PrintMore
attribute [local go_sem] max2_int min2_int max_two min_two max_three min_three max_four min_four   -- for this text's walks alone
set_option linter.unusedVariables false
set_option linter.unusedSimpArgs false



def errW : Option Int → Value
  | none => .nilIface
  | some c => .iface 0 (.int .i64 c)
theorem errW_none : errW none = .nilIface := rfl
theorem errW_some (c : Int) : errW (some c) = .iface 0 (.int .i64 c) := rfl

theorem info4 : (Try.prog.info? 4).map (fun i => (i.zero, i.size, i.bytes)) = some (some (.bool false), 1, 1) := by kernel_rfl
theorem info5 : (Try.prog.info? 5).map (fun i => (i.zero, i.size, i.bytes)) = some (some (.int .u8 0), 1, 1) := by kernel_rfl
theorem info9 : (Try.prog.info? 9).map (fun i => (i.zero, i.size, i.bytes)) = some (some (.string ⟨#[]⟩), 1, 16) := by kernel_rfl
theorem info24 : (Try.prog.info? 24).map (fun i => (i.zero, i.size, i.bytes)) = some (some (.int .u64 0), 1, 8) := by kernel_rfl
theorem info42 : (Try.prog.info? 42).map (fun i => (i.zero, i.size, i.bytes)) = some (some (.agg #[(.int .u64 0), (.bool false)]), 2, 16) := by kernel_rfl
-- the values' own types
/-! #### struct type 42 -/
structure S42 where
  f0 : Int
  f1 : Bool
def z42 : S42 := ⟨(0 : Int), false⟩
def k42 : Kd S42 := Kd.iso (Kd.pair (Kd.int .u64) Kd.bool) (fun x : S42 => (x.f0, x.f1))
theorem k42_open {w : World} {x : S42} {cs : List Value} (h : k42.K w x cs) : cs = [.int .u64 x.f0, .bool x.f1] := by
  obtain ⟨_, _, rfl, rfl, rfl⟩ := h
  exact rfl
theorem k42_openM {w : World} {base : Nat} {ok : Nat → Prop} {x : S42} {cs : List Value} (h : k42.M w base ok x cs) : cs = [.int .u64 x.f0, .bool x.f1] := by
  obtain ⟨_, _, rfl, rfl, rfl⟩ := h
  exact rfl
theorem k42_mk (w : World) (x : S42)  : k42.K w x [.int .u64 x.f0, .bool x.f1] := ⟨[.int .u64 x.f0], [.bool x.f1], rfl, rfl, rfl⟩
theorem k42_mkM (w : World) (base : Nat) (ok : Nat → Prop) (x : S42)  : k42.M w base ok x [.int .u64 x.f0, .bool x.f1] := ⟨[.int .u64 x.f0], [.bool x.f1], rfl, rfl, rfl⟩
def rd_T42 (xs : List S42) (i : Int) : S42 := xs.getD i.toNat z42
theorem at_T42 {w : World} {A : Option Addr} {n : Nat} {xs : List S42} (h : Kd.C k42 w A n xs) (i : Int) (h0 : 0 ≤ i) (h1 : i < n) : ∃ ad , A = some ad ∧ w.cell? (ad.add (i.toNat * 2)) = some (.int .u64 (rd_T42 xs i).f0) ∧ w.cell? ⟨(ad.add (i.toNat * 2)).block, (ad.add (i.toNat * 2)).off + 1, none⟩ = some (.bool (rd_T42 xs i).f1) := by
  obtain ⟨ad, c, e, _, hK, hc0⟩ := Kd.C_get h z42 i h0 h1
  have hc : ∀ j u, c[j]? = some u → w.cell? (ad.add (i.toNat * 2 + j)) = some u := hc0
  obtain rfl := k42_open hK
  exact ⟨ad, e, hc 0 _ rfl, by rw [← add_field _ _ 1 (by omega)]; exact hc 1 _ rfl⟩

end Go.Proofs.Ytcikhbamdbphaaa.PAll
