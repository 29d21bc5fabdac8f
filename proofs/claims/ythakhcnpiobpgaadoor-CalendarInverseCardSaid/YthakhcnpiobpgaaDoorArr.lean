/- Arrays of two and three whole numbers as the reader reads them. -/
import Derived.Laws.IdiomArrays
import Derived.Lib.SmallJoins
import Derived.ChangeShapes
import Derived.WideShapes
namespace Go.Proofs.YthakhcnpiobpgaaDoor.Arr
open Go.ChangeShapes Go.WideShapes Go.Joins
variable {H : Type} {enc : TypeId × Value → H} {P : Program} {w : World} {base : Nat} {spare : Nat → Bool} {held : Bool}
theorem okWide_array {n : Nat} {e t : TypeId} {r : Reach} {b0 : Nat} {v : Value} (ht : P.underlying t = some (.array n e)) (h : Value.okWide P w r b0 t v) : ∃ cs, v = .agg cs ∧ cs.size = P.cellsOf t := by
  simp only [Value.okWide, ht] at h
  obtain ⟨cs, h1, h2, _⟩ := h
  exact ⟨cs, h1, h2⟩
theorem open_ints3 {t e : TypeId} {k : IntKind} {r : Reach} {b0 : Nat} {v : Value} {d : DataW H} {ps : List MemPlace} (ht : P.underlying t = some (.array 3 e)) (he : P.underlying e = some (.int k)) (hce : P.cellsOf e = 1) (hC : P.cellsOf t = 3)
    (hval : Value.okWide P w r b0 t v) (hd : DataW.Trod enc P w base spare held t v d ps) :
    ∃ x0 x1 x2, v = .agg #[.int k x0, .int k x1, .int k x2] ∧ d = .agg [.lit (.int k x0), .lit (.int k x1), .lit (.int k x2)] ∧ ps = [] ∧ (Lit.int k x0).wf = true ∧ (Lit.int k x1).wf = true ∧ (Lit.int k x2).wf = true := by
  obtain ⟨cs, rfl, hs⟩ := okWide_array ht hval
  obtain ⟨c0, c1, c2, rfl⟩ := array3 (hs.trans hC)
  obtain ⟨fuel, hf⟩ := hd
  obtain ⟨y0, y1, y2, n, hx, h0, h1, h2⟩ := trod_array3 ht hce hf
  obtain ⟨x0, e0, rfl, w0⟩ := DataW.trod_int he h0
  obtain ⟨x1, e1, rfl, w1⟩ := DataW.trod_int he h1
  obtain ⟨x2, e2, rfl, w2⟩ := DataW.trod_int he h2
  cases e0; cases e1; cases e2
  simp only [Prod.mk.injEq] at hx
  exact ⟨x0, x1, x2, rfl, hx.1, hx.2, w0, w1, w2⟩
theorem shut_ints3 {t e : TypeId} {k : IntKind} {x0 x1 x2 : Int} (ht : P.underlying t = some (.array 3 e)) (he : P.underlying e = some (.int k)) (hce : P.cellsOf e = 1) (hC : P.cellsOf t = 3)
    (w0 : (Lit.int k x0).wf = true) (w1 : (Lit.int k x1).wf = true) (w2 : (Lit.int k x2).wf = true) :
    DataW.Trod enc P w base spare held t (.agg #[.int k x0, .int k x1, .int k x2]) (.agg [.lit (.int k x0), .lit (.int k x1), .lit (.int k x2)]) [] := by
  have r3 : List.range 3 = [0, 1, 2] := rfl
  have s : ∀ x : Int, (Lit.int k x).wf = true → DataW.trod enc P w base spare held 1 e [.int k x] = some (.lit (.int k x), []) := by
    intro x hx
    simp [DataW.trod, he, hx]
  refine ⟨2, ?_⟩
  unfold DataW.trod
  rw [ht]
  simp [r3, hce, hC, Value.cells, s x0 w0, s x1 w1, s x2 w2]
end Go.Proofs.YthakhcnpiobpgaaDoor.Arr
