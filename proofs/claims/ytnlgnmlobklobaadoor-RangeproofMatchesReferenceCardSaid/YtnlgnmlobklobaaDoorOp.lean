/- The types of this seat's arguments, opened (printed by genop.py). -/
import Derived.Test.YtnlgnmlobklobaaDoorOpn
import Derived.Test.YtnlgnmlobklobaaDoorPAllx0
set_option linter.unusedVariables false
namespace Go.Proofs.YtnlgnmlobklobaaDoor.Op
open Go.RowKit Go.Proofs.YtnlgnmlobklobaaDoorW.PrintWords Go.Proofs.YtnlgnmlobklobaaDoor.PAll Go.Proofs.YtnlgnmlobklobaaDoor.Opn
def wf23 (x : S23) : Prop := ((Lit.int .i64 x.f0).wf = true) ∧ ((Lit.int .i64 x.f1).wf = true)
theorem o23 : O Tryd.prog k23 23 wf23 := O.array2 Tryd.underlying23 (O.int Tryd.underlying3) (by kernel_rfl) (fun x : S23 => (x.f0, x.f1)) (fun x => ⟨x.1, x.2⟩) (fun _ => rfl)
def wf25 (x : S25) : Prop := ((Lit.int .i64 x.f0).wf = true) ∧ (wf23 x.f1) ∧ (wf23 x.f2) ∧ (wf23 x.f3)
theorem o25 : O Tryd.prog k25 25 wf25 := O.struct Tryd.underlying25 (Fs.cons (O.int Tryd.underlying3) (by kernel_rfl) (Fs.cons o23 (by kernel_rfl) (Fs.cons o23 (by kernel_rfl) (Fs.one o23 (by kernel_rfl) (by kernel_rfl))))) (fun x : S25 => (x.f0, x.f1, x.f2, x.f3)) (fun x => ⟨x.1, x.2.1, x.2.2.1, x.2.2.2⟩) (fun _ => rfl)
theorem os22 : O Tryd.prog (Kd.slice 25 k25) 22 (fun xs => ∀ y ∈ xs, wf25 y) := (O.slice Tryd.underlying22 o25 (by kernel_rfl))
end Go.Proofs.YtnlgnmlobklobaaDoor.Op
