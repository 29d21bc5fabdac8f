/- Small tools of the walks: regions that draw their order, with the world under a name; a block of one cell; worlds that grow. -/
import Derived.WalkKit
import Derived.OneCell
import Derived.Lib.Hide
import Derived.Lib.BufferOwn
import Derived.Lib.HexFns2
import Derived.StillTailTactics
import Derived.KernelRfl
import Derived.Laws.BytesArg
import Derived.Laws.Rows
namespace Go.Proofs.Ytcikhbamdbphaaa.Tool
open Go.RowKit

section
variable {P : Program} {w : World}
/-- A region all of whose operations but the last few read: the world behind the draw has a name. -/
theorem tail_region {id : Nat} {Q : Exit → Act → World → Prop} {a : Act} {l : List Oper} (n : Nat) (hm : P.follows .mixedOrders = true) (hB : Region.lexTailB .any l.toArray n = true)
    (h : ∀ W, W = w.drew → wpStill P l.toArray W (fun a' => wpList P l.toArray Q (l.drop n) a' W) (l.take n) a) : (Code.region id l.toArray true).wp P Q a w :=
  wp_region_still_tail n hm hB (h w.drew rfl)
/-- A region that only reads. -/
theorem still_region {id : Nat} {Q : Exit → Act → World → Prop} {a : Act} {l : List Oper} (hm : P.follows .mixedOrders = true) (hB : Region.lexB .any l.toArray = true)
    (h : ∀ W, W = w.drew → wpStill P l.toArray W (fun a' => Q .normal a' W) l a) : (Code.region id l.toArray true).wp P Q a w :=
  wp_region_still_lit hm hB (h w.drew rfl)
end
/-- Block b holds v, and nothing else that was there has turned. -/
def OneAt (b : Nat) (t : TypeId) (v : Value) (w w' : World) : Prop := w'.heap[b]? = some (.cells #[v] t (0, 0)) ∧ w.grownBy w' (some b)
theorem cell_blk {W : World} {b : Nat} {cs : Array Value} {t : TypeId} {fr : Nat × Nat} (h : W.heap[b]? = some (.cells cs t fr)) (i : Nat) : W.cell? ⟨b, i, none⟩ = cs[i]? := by
  simp [World.cell?, h]
theorem free_blk {W : World} {b : Nat} {cs : Array Value} {t : TypeId} (h : W.heap[b]? = some (.cells cs t (0, 0))) (i : Nat) : W.frozen? ⟨b, i, none⟩ = false := by
  simp [World.frozen?, h]
/-- The bytes of a whole block as a string. -/
theorem conv_blk {P : Program} {W : World} {src e dst : TypeId} (hs : P.underlying src = some (.slice e)) (he : P.underlying e = some (.int .u8)) (hd : P.underlying dst = some .string)
    {b : Nat} {t : TypeId} {xs : List Int} (n cap : Nat) (hn : xs.length = n) (h : W.heap[b]? = some (.cells (xs.map (Value.int .u8)).toArray t (0, 0))) :
    (convert src dst (.slice (some ⟨b, 0, none⟩) n cap)).run P W = .ok (.string (strOfNums xs)) W := by
  refine run_convert_bytes_arg W src e hs he b 0 n cap xs hn (fun i hi => ?_) dst hd
  rw [Nat.zero_add, cell_blk h]
  have hi' : i < xs.length := by omega
  simp [hi']
theorem two_fst {w W : World} {X Y : Obj} (h : W = ((w.alloc X).alloc Y).drew) : W.heap[w.heap.size]? = some X := by
  rw [h]; exact (Below.heap_alloc _ _ _ (by simp)).trans (heap_alloc_new _ _)
theorem two_snd {w W : World} {X Y : Obj} (h : W = ((w.alloc X).alloc Y).drew) : W.heap[w.heap.size + 1]? = some Y := by
  rw [h]; have := heap_alloc_new (w.alloc X) Y; rw [World.size_alloc] at this; exact this
theorem set_blk {W : World} {b : Nat} {cs : Array Value} {t : TypeId} {fr : Nat × Nat} (h : W.heap[b]? = some (.cells cs t fr)) (i : Nat) (v : Value) :
    (W.setCell ⟨b, i, none⟩ v).heap[b]? = some (.cells (cs.setIfInBounds i v) t fr) := by
  have hlt := lt_of_block h
  have h' : W.heap[b] = .cells cs t fr := by simpa [Array.getElem?_eq_getElem hlt] using h
  show (W.heap.modify b _)[b]? = _
  rw [Array.getElem?_eq_getElem (by simpa using hlt), Array.getElem_modify_self, h']
  simp
def rdI (l : List Int) (i : Nat) : Int := l.getD i 0
/-- A word masked. -/
theorem and_mask (x : Int) (h0 : 0 ≤ x) (h1 : x ≤ 18446744073709551615) (i : Nat) (hi : i ≤ 64) : bits .and .u64 x (2 ^ i - 1) = x % 2 ^ i :=
  bits_mask .u64 64 (by decide) (fun n h0 h1 => by
    simp only [IntKind.wrap, IntKind.bits, IntKind.signed, Bool.false_and, Bool.false_eq_true, if_false]
    exact Int.emod_eq_of_lt h0 h1) i hi x h0 (by omega)
section
variable {P : Program}
theorem run_loadVar_cells (w : World) (g : Nat) (ty : TypeId) (cs : Array Value) (d : TypeDesc) (hg : ∀ j v, cs[j]? = some v → w.cell? ⟨g, j, none⟩ = some v)
    (hu : P.underlying ty = some d) (hd : (match d with | .struct _ | .array _ _ => true | _ => false) = true) (hi : (P.info? ty).map (·.size) = some cs.size) :
    (loadVar ty ⟨g, 0, none⟩).run P w = .ok (.agg cs) w := by
  have hl : (loadCells ⟨g, 0, none⟩ cs.toList.length).run P w = .ok cs.toList.toArray w :=
    run_loadCells_list (P := P) w ⟨g, 0, none⟩ cs.toList (fun j v hv => by
      have hadd : (⟨g, 0, none⟩ : Addr).add j = ⟨g, j, none⟩ := by unfold Addr.add; split <;> simp_all
      rw [hadd]
      exact hg j v (by simpa using hv))
  cases hq : P.info? ty with
  | none => simp [hq] at hi
  | some i =>
    have hs : i.size = cs.size := by simpa [hq] using hi
    have hagg : (isAgg ty).run P w = .ok true w := by
      unfold isAgg
      rw [Sem.run_bind, run_underlying hu w]
      cases d <;> simp_all
    simp only [Array.length_toList, Array.toArray_toList] at hl
    simp [loadVar, Sem.run_bind, hagg, sizeOf, typeInfo, hq, hs, hl]
/-- A whole array (or struct) read out of a variable whose cells are known. -/
theorem wpList_load_cells {ops : Array Oper} {rest : List Oper} {o : Oper} {a : Act} {w : World} {Q : Exit → Act → World → Prop} (hgd : o.guard = none) (ty : TypeId) (x : Operand) (ho : o.op = .load ty x)
    (g : Nat) (hx : a.eval x = .pointer (some ⟨g, 0, none⟩)) (cs : Array Value) (d : TypeDesc) (hg : ∀ j v, cs[j]? = some v → w.cell? ⟨g, j, none⟩ = some v)
    (hu : P.underlying ty = some d) (hd : (match d with | .struct _ | .array _ _ => true | _ => false) = true) (hi : (P.info? ty).map (·.size) = some cs.size)
    (h : wpList P ops Q rest (a.put o.dst (.agg cs)) w) : wpList P ops Q (o :: rest) a w :=
  wpList_plain hgd fun K hK => by
    unfold Oper.wp execOp
    simp only [ho, hx, Instr.loadAt, Instr.sureAddr, Sem.run_bind, Sem.run_pure, Result.andThen_ok, run_loadVar_cells w g ty cs d hg hu hd hi]
    exact hK _ _ h
end
theorem ret_int {k : IntKind} {a b : Int} (h : a = b) : Ending.returned (.int k a) = .returned (.int k b) := by rw [h]
end Go.Proofs.Ytcikhbamdbphaaa.Tool
