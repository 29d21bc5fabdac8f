/- Small tools of the walks: regions that draw their order, with the world under a name; a block of one cell; worlds that grow. A range over a function whose closure keeps its state in captured cells: one round; the statement. The joint walk of loop and iterator says what lies in the heap. The group of layer 26, in natural numbers: powers modulo the prime 2147483579, exponents modulo the prime 1073741789. No program in sight. -/
import Derived.WalkKit
import Derived.OneCell
import Derived.Lib.Hide
import Derived.Lib.BufferOwn
import Derived.Lib.HexFns2
import Derived.StillTailTactics
import Derived.KernelRfl
import Derived.Laws.BytesArg
import Derived.Laws.Rows
import Derived.RangeFuncNested
import Derived.RangeFuncBound
import Derived.RangeFuncCalls
import Derived.RangeFuncLeaves
import Derived.Test.YtnlgnmlobklobaaDoorRows
namespace Go.Proofs.YtnlgnmlobklobaaDoor.Tool
open Go.RowKit

section
variable {P : Program} {w : World}
/-- A region all of whose operations but the last few read: the world behind the draw has a name. -/
theorem tail_region {id : Nat} {Q : Exit → Act → World → Prop} {a : Act} {l : List Oper} (n : Nat) (hm : P.follows .mixedOrders = true) (hB : Region.lexTailB .any l.toArray n = true)
    (h : ∀ W, W = w.drew → wpStill P l.toArray W (fun a' => wpList P l.toArray Q (l.drop n) a' W) (l.take n) a) : (Code.region id l.toArray true).wp P Q a w :=
  wp_region_still_tail n hm hB (h w.drew rfl)
/-- A region that only reads. -/
theorem still_region {id : Nat} {Q : Exit → Act → World → Prop} {a : Act} {l : List Oper} (hm : P.follows .mixedOrders = true) (hB : Region.lexB .any l.toArray = true)
    (h : ∀ W, W = w.drew → wpStill P l.toArray W (fun a' => Q .normal a' W) l a) : (Code.region id l.toArray true).wp P Q a w :=
  wp_region_still_lit hm hB (h w.drew rfl)
end
/-- Block b holds v, and nothing else that was there has turned. -/
def OneAt (b : Nat) (t : TypeId) (v : Value) (w w' : World) : Prop := w'.heap[b]? = some (.cells #[v] t (0, 0)) ∧ w.grownBy w' (some b)
theorem cell_blk {W : World} {b : Nat} {cs : Array Value} {t : TypeId} {fr : Nat × Nat} (h : W.heap[b]? = some (.cells cs t fr)) (i : Nat) : W.cell? ⟨b, i, none⟩ = cs[i]? := by
  simp [World.cell?, h]
theorem free_blk {W : World} {b : Nat} {cs : Array Value} {t : TypeId} (h : W.heap[b]? = some (.cells cs t (0, 0))) (i : Nat) : W.frozen? ⟨b, i, none⟩ = false := by
  simp [World.frozen?, h]
/-- The bytes of a whole block as a string. -/
theorem conv_blk {P : Program} {W : World} {src e dst : TypeId} (hs : P.underlying src = some (.slice e)) (he : P.underlying e = some (.int .u8)) (hd : P.underlying dst = some .string)
    {b : Nat} {t : TypeId} {xs : List Int} (n cap : Nat) (hn : xs.length = n) (h : W.heap[b]? = some (.cells (xs.map (Value.int .u8)).toArray t (0, 0))) :
    (convert src dst (.slice (some ⟨b, 0, none⟩) n cap)).run P W = .ok (.string (strOfNums xs)) W := by
  refine run_convert_bytes_arg W src e hs he b 0 n cap xs hn (fun i hi => ?_) dst hd
  rw [Nat.zero_add, cell_blk h]
  have hi' : i < xs.length := by omega
  simp [hi']
theorem two_fst {w W : World} {X Y : Obj} (h : W = ((w.alloc X).alloc Y).drew) : W.heap[w.heap.size]? = some X := by
  rw [h]; exact (Below.heap_alloc _ _ _ (by simp)).trans (heap_alloc_new _ _)
theorem two_snd {w W : World} {X Y : Obj} (h : W = ((w.alloc X).alloc Y).drew) : W.heap[w.heap.size + 1]? = some Y := by
  rw [h]; have := heap_alloc_new (w.alloc X) Y; rw [World.size_alloc] at this; exact this
theorem set_blk {W : World} {b : Nat} {cs : Array Value} {t : TypeId} {fr : Nat × Nat} (h : W.heap[b]? = some (.cells cs t fr)) (i : Nat) (v : Value) :
    (W.setCell ⟨b, i, none⟩ v).heap[b]? = some (.cells (cs.setIfInBounds i v) t fr) := by
  have hlt := lt_of_block h
  have h' : W.heap[b] = .cells cs t fr := by simpa [Array.getElem?_eq_getElem hlt] using h
  show (W.heap.modify b _)[b]? = _
  rw [Array.getElem?_eq_getElem (by simpa using hlt), Array.getElem_modify_self, h']
  simp
def rdI (l : List Int) (i : Nat) : Int := l.getD i 0
/-- A word masked. -/
theorem and_mask (x : Int) (h0 : 0 ≤ x) (h1 : x ≤ 18446744073709551615) (i : Nat) (hi : i ≤ 64) : bits .and .u64 x (2 ^ i - 1) = x % 2 ^ i :=
  bits_mask .u64 64 (by decide) (fun n h0 h1 => by
    simp only [IntKind.wrap, IntKind.bits, IntKind.signed, Bool.false_and, Bool.false_eq_true, if_false]
    exact Int.emod_eq_of_lt h0 h1) i hi x h0 (by omega)
section
variable {P : Program}
theorem run_loadVar_cells (w : World) (g : Nat) (ty : TypeId) (cs : Array Value) (d : TypeDesc) (hg : ∀ j v, cs[j]? = some v → w.cell? ⟨g, j, none⟩ = some v)
    (hu : P.underlying ty = some d) (hd : (match d with | .struct _ | .array _ _ => true | _ => false) = true) (hi : (P.info? ty).map (·.size) = some cs.size) :
    (loadVar ty ⟨g, 0, none⟩).run P w = .ok (.agg cs) w := by
  have hl : (loadCells ⟨g, 0, none⟩ cs.toList.length).run P w = .ok cs.toList.toArray w :=
    run_loadCells_list (P := P) w ⟨g, 0, none⟩ cs.toList (fun j v hv => by
      have hadd : (⟨g, 0, none⟩ : Addr).add j = ⟨g, j, none⟩ := by unfold Addr.add; split <;> simp_all
      rw [hadd]
      exact hg j v (by simpa using hv))
  cases hq : P.info? ty with
  | none => simp [hq] at hi
  | some i =>
    have hs : i.size = cs.size := by simpa [hq] using hi
    have hagg : (isAgg ty).run P w = .ok true w := by
      unfold isAgg
      rw [Sem.run_bind, run_underlying hu w]
      cases d <;> simp_all
    simp only [Array.length_toList, Array.toArray_toList] at hl
    simp [loadVar, Sem.run_bind, hagg, sizeOf, typeInfo, hq, hs, hl]
/-- A whole array (or struct) read out of a variable whose cells are known. -/
theorem wpList_load_cells {ops : Array Oper} {rest : List Oper} {o : Oper} {a : Act} {w : World} {Q : Exit → Act → World → Prop} (hgd : o.guard = none) (ty : TypeId) (x : Operand) (ho : o.op = .load ty x)
    (g : Nat) (hx : a.eval x = .pointer (some ⟨g, 0, none⟩)) (cs : Array Value) (d : TypeDesc) (hg : ∀ j v, cs[j]? = some v → w.cell? ⟨g, j, none⟩ = some v)
    (hu : P.underlying ty = some d) (hd : (match d with | .struct _ | .array _ _ => true | _ => false) = true) (hi : (P.info? ty).map (·.size) = some cs.size)
    (h : wpList P ops Q rest (a.put o.dst (.agg cs)) w) : wpList P ops Q (o :: rest) a w :=
  wpList_plain hgd fun K hK => by
    unfold Oper.wp execOp
    simp only [ho, hx, Instr.loadAt, Instr.sureAddr, Sem.run_bind, Sem.run_pure, Result.andThen_ok, run_loadVar_cells w g ty cs d hg hu hd hi]
    exact hK _ _ h
end
theorem ret_int {k : IntKind} {a b : Int} (h : a = b) : Ending.returned (.int k a) = .returned (.int k b) := by rw [h]
end Go.Proofs.YtnlgnmlobklobaaDoor.Tool
namespace Go.Proofs.YtnlgnmlobklobaaDoor.Rf
open Go.RowKit
variable {F : Fence} {n : Nat} {P : Program}

/-- The loop's record. -/
abbrev recd (st : LoopState) (pe : Option Code) (fn : FuncId) (tmps : Array Value) (ps : Array Tmp) (assign body : Code) (D : Nat) : Obj := .loop { state := st, pending := pe, fn := fn, tmps := tmps, params := ps, assign := assign, body := body, defers := D }

/-- One round of a loop whose body falls off its end, or returns. -/
theorem yield_round {l D : Nat} {fn : FuncId} {tmps : Array Value} {ps : Array Tmp} {assign body : Code} {args : Array Value} {W : World} {R : Bool → World → Prop} (hfn : F.fn fn)
    (hl : W.heap[l]? = some (recd .ready none fn tmps ps assign body D)) (hs : args.size = ps.size) (a₁ : Act)
    (hA : ∀ K : Act → World → Prop, K a₁ W → assign.wpIn (F.inRound l) n P (Exit.then K (fun _ _ _ => False)) { tmps := (ps.zip args).foldl (fun t (p, v) => t.setIfInBounds p v) tmps, defers := [] } W)
    (hB : body.wpIn (F.inRound l) n P (fun e _ W' => match e with
      | .normal => W'.heap[l]? = some (recd .busy none fn tmps ps assign body D) ∧ R true (W'.putObj l (recd .ready none fn tmps ps assign body D))
      | .ret => W'.heap[l]? = some (recd .busy none fn tmps ps assign body D) ∧ R false (W'.putObj l (recd .done (some .ret) fn tmps ps assign body D))
      | _ => False) a₁ (W.putObj l (recd .busy none fn tmps ps assign body D))) :
    YieldAt F n P l args W fun e W' => ∃ b, e = .returned (.bool b) ∧ R b W' := by
  refine ⟨fn, _, assign, body, run_yield hl hs, roundIn_of_wpIn hfn (hA _ ⟨_, run_beginRound hl rfl, wpIn_mono hB ?_⟩)⟩
  rintro e a3 W3 hp
  cases e with
  | normal => exact ⟨_, _, run_endRound none hp.1, true, rfl, hp.2⟩
  | ret => exact ⟨_, _, run_endRound (some .ret) hp.1, false, rfl, hp.2⟩
  | exit id => exact hp.elim
  | goto t => exact hp.elim
  | panic ch => exact hp.elim
  | outgrown => exact hp.elim

-- The statement: the record laid, the iterator run, the record read.
set_option maxHeartbeats 1000000 in
theorem enter_range {g : Operand} {ps : Array Tmp} {assign body : Code} {Q : Exit → Act → World → Prop} {a : Act} {w : World}
    (hro : F.round = none) (h1 : 1 ≤ n) {gf : Nat} {lb : Array Value} (hg : a.eval g = .func (.func gf) #[] lb) (hFg : F.fn gf) (eg : ∀ args w, (callFunc gf args).run P w = .ok (.enter gf args) w)
    (h : ∀ fn, F.fn fn → CallsIn F (n - 1) P gf (#[.func (.yield (w.heap.size + 1)) #[] #[]] ++ lb) ((w.alloc (.deferred (some []))).alloc (recd .ready none fn a.tmps ps assign body w.heap.size)) fun e W2 =>
      ∃ v st pe, e = .returned v ∧ st ≠ .busy ∧ W2.heap[w.heap.size + 1]? = some (recd st pe fn a.tmps ps assign body w.heap.size) ∧
        (match pe with
          | none => Q .normal { a with defers := { target := .collected w.heap.size, args := #[] } :: a.defers } (W2.putObj (w.heap.size + 1) (recd .exhausted pe fn a.tmps ps assign body w.heap.size))
          | some c => c.wpIn F n P Q { a with defers := { target := .collected w.heap.size, args := #[] } :: a.defers } (W2.putObj (w.heap.size + 1) (recd .exhausted pe fn a.tmps ps assign body w.heap.size)))) :
    (Code.rangeFunc g ps assign body).wpIn F n P Q a w := by
  refine wpIn_rangeFunc ?_
  intro fn hfn
  rw [hro]
  have hc := h fn hfn
  clear h
  have hent := run_enterLoop_outer (P := P) (w := w) fn a.tmps ps assign body
  generalize (w.alloc (.deferred (some []))).alloc (recd .ready none fn a.tmps ps assign body w.heap.size) = W1 at *
  refine ⟨w.heap.size + 1, [{ target := .collected w.heap.size, args := #[] }], W1, { target := .fn (.func gf) lb, args := #[.func (.yield (w.heap.size + 1)) #[] #[]] }, W1, gf,
    #[.func (.yield (w.heap.size + 1)) #[] #[]] ++ lb, W1, hent, ?_, ?_, ?_, fun _ => h1, ?_⟩
  · simp only [resolve, hg]
    simp [go_sem]
  · intro f' hf'; simp [Target.leads] at hf'; subst hf'; exact hFg
  · simp [invoke, go_sem, eg]
  · refine hc.mono ?_
    rintro e W2 ⟨v, st, pe, rfl, hst, hl, hp⟩
    have he : (Instr.endLoop (w.heap.size + 1)).run P W2 = .ok pe (W2.putObj (w.heap.size + 1) (recd .exhausted pe fn a.tmps ps assign body w.heap.size)) := run_endLoop hl hst
    cases pe with
    | none => exact ⟨none, _, he, hp⟩
    | some c => exact ⟨some c, _, he, hp⟩
/-- The same, the record under a name. -/
theorem enter {g : Operand} {ps : Array Tmp} {assign body : Code} {Q : Exit → Act → World → Prop} {a : Act} {w : World}
    (hro : F.round = none) (h1 : 1 ≤ n) {gf : Nat} {lb : Array Value} (hg : a.eval g = .func (.func gf) #[] lb) (hFg : F.fn gf) (eg : ∀ args w, (callFunc gf args).run P w = .ok (.enter gf args) w)
    (H : Nat) (hH : w.heap.size = H)
    (h : ∀ fn, F.fn fn → ∀ R : LoopState → Option Code → Obj, (∀ st pe, R st pe = recd st pe fn a.tmps ps assign body H) →
      CallsIn F (n - 1) P gf (#[.func (.yield (H + 1)) #[] #[]] ++ lb) ((w.alloc (.deferred (some []))).alloc (R .ready none)) fun e W2 =>
      ∃ v st pe, e = .returned v ∧ st ≠ .busy ∧ W2.heap[H + 1]? = some (R st pe) ∧
        (match pe with
          | none => Q .normal { a with defers := { target := .collected H, args := #[] } :: a.defers } (W2.putObj (H + 1) (R .exhausted pe))
          | some c => c.wpIn F n P Q { a with defers := { target := .collected H, args := #[] } :: a.defers } (W2.putObj (H + 1) (R .exhausted pe)))) :
    (Code.rangeFunc g ps assign body).wpIn F n P Q a w := by
  subst hH
  refine enter_range hro h1 hg hFg eg fun fn hfn => ?_
  have := h fn hfn (fun st pe => recd st pe fn a.tmps ps assign body w.heap.size) (fun _ _ => rfl)
  exact this
/-- What a round's body owes at its ends: the record is busy; S of the world behind the round (true: it goes on; false: it has returned). -/
def RoundEnds (l : Nat) (R : LoopState → Option Code → Obj) (S : Bool → World → Prop) : Exit → Act → World → Prop
  | .normal, _, W' => W'.heap[l]? = some (R .busy none) ∧ S true (W'.putObj l (R .ready none))
  | .ret, _, W' => W'.heap[l]? = some (R .busy none) ∧ S false (W'.putObj l (R .done (some .ret)))
  | _, _, _ => False
/-- Between the assignment of the loop's variables and the body. -/
def RoundBody (F : Fence) (n : Nat) (P : Program) (l : Nat) (R : LoopState → Option Code → Obj) (S : Bool → World → Prop) (body : Code) (W : World) (a : Act) (W1 : World) : Prop :=
  W1 = W ∧ body.wpIn (F.inRound l) n P (RoundEnds l R S) a (W.putObj l (R .busy none))
theorem round {l D : Nat} {fn : FuncId} {tmps : Array Value} {ps : Array Tmp} {assign body : Code} {args : Array Value} {W : World} {S : Bool → World → Prop} {R : LoopState → Option Code → Obj}
    (hR : ∀ st pe, R st pe = recd st pe fn tmps ps assign body D) (hfn : F.fn fn) (hl : W.heap[l]? = some (R .ready none)) (hs : args.size = ps.size)
    (h : assign.wpIn (F.inRound l) n P (Exit.then (RoundBody F n P l R S body W) (fun _ _ _ => False))
      { tmps := (ps.zip args).foldl (fun t (p, v) => t.setIfInBounds p v) tmps, defers := [] } W) :
    YieldAt F n P l args W fun e W' => ∃ b, e = .returned (.bool b) ∧ S b W' := by
  have hl' := hl
  rw [hR] at hl'
  refine ⟨fn, _, assign, body, run_yield hl' hs, roundIn_of_wpIn hfn (wpIn_mono h ?_)⟩
  rintro e a1 W1 hp
  cases e with
  | normal =>
    obtain ⟨rfl, hb⟩ := hp
    refine ⟨_, run_beginRound hl' rfl, ?_⟩
    have hb' := hb
    rw [hR] at hb'
    refine wpIn_mono hb' ?_
    rintro e a3 W3 hp
    cases e with
    | normal => obtain ⟨h1, h2⟩ := hp; rw [hR] at h1 h2; exact ⟨_, _, run_endRound none h1, true, rfl, h2⟩
    | ret => obtain ⟨h1, h2⟩ := hp; rw [hR] at h1 h2; exact ⟨_, _, run_endRound (some .ret) h1, false, rfl, h2⟩
    | exit id => exact hp.elim
    | goto t => exact hp.elim
    | panic ch => exact hp.elim
    | outgrown => exact hp.elim
  | ret => exact hp.elim
  | exit id => exact hp.elim
  | goto t => exact hp.elim
  | panic ch => exact hp.elim
  | outgrown => exact hp.elim
theorem alloc_old {w : World} {k : Nat} {x : Obj} (o : Obj) (h : w.heap[k]? = some x) : (w.alloc o).heap[k]? = some x :=
  ((World.grownBy_alloc w o none).block k (Array.getElem?_eq_some_iff.1 h).1 (by simp)).trans h
theorem alloc_new (w : World) (o : Obj) {n : Nat} (h : w.heap.size = n) : (w.alloc o).heap[n]? = some o := by subst h; exact World.alloc_heap_new w o
theorem four (w : World) (a b c d : Obj) : ∃ W, (((w.alloc a).alloc b).alloc c).alloc d = W ∧ W.heap[w.heap.size]? = some a ∧ W.heap[w.heap.size + 1]? = some b ∧ W.heap[w.heap.size + 2]? = some c ∧
    W.heap[w.heap.size + 3]? = some d ∧ W.heap.size = w.heap.size + 4 ∧ Below w.heap.size w W :=
  ⟨_, rfl, alloc_old _ (alloc_old _ (alloc_old _ (alloc_new _ _ rfl))), alloc_old _ (alloc_old _ (alloc_new _ _ (by simp))), alloc_old _ (alloc_new _ _ (by simp)), alloc_new _ _ (by simp), by simp,
    (((((Below.refl _ w).alloc (Nat.le_refl _) a).alloc (by simp) b).alloc (by simp; omega) c).alloc (by simp; omega) d)⟩
theorem five (w : World) (a b c d e : Obj) : ∃ W, ((((w.alloc a).alloc b).alloc c).alloc d).alloc e = W ∧ W.heap[w.heap.size]? = some a ∧ W.heap[w.heap.size + 1]? = some b ∧ W.heap[w.heap.size + 2]? = some c ∧
    W.heap[w.heap.size + 3]? = some d ∧ W.heap[w.heap.size + 4]? = some e ∧ W.heap.size = w.heap.size + 5 ∧ Below w.heap.size w W := by
  obtain ⟨W, rfl, h0, h1, h2, h3, hs, hb⟩ := four w a b c d
  exact ⟨_, rfl, alloc_old _ h0, alloc_old _ h1, alloc_old _ h2, alloc_old _ h3, alloc_new _ _ hs, by rw [World.size_alloc, hs], hb.alloc (by omega) e⟩
theorem size_put (W : World) (l : Nat) (o : Obj) : (W.putObj l o).heap.size = W.heap.size := by simp [World.putObj]
theorem put_same {W : World} {l : Nat} {x : Obj} (o : Obj) (h : W.heap[l]? = some x) : (W.putObj l o).heap[l]? = some o := by
  have hlt : l < W.heap.size := (Array.getElem?_eq_some_iff.1 h).1
  simp [World.putObj, hlt]
theorem put_other {W : World} {l k : Nat} {o x : Obj} (h : W.heap[k]? = some x) (hne : k ≠ l) : (W.putObj l o).heap[k]? = some x := by
  have := (grownBy_putObj' W l o).block k (Array.getElem?_eq_some_iff.1 h).1 (fun e => hne (by cases e; rfl))
  exact this.trans h
theorem below_put {B l : Nat} {w W : World} {o : Obj} (h : Below B w W) (hl : B ≤ l) (hs : B ≤ W.heap.size) : Below B w (W.putObj l o) :=
  h.grown (grownBy_putObj' W l o) hs (fun k e => by cases e; exact hl)
theorem set_other {W : World} {b k : Nat} {v : Value} {x : Obj} (h : W.heap[k]? = some x) (hne : k ≠ b) : (W.setCell ⟨b, 0, none⟩ v).heap[k]? = some x := by
  have := (grownBy_setCell' W b v).block k (Array.getElem?_eq_some_iff.1 h).1 (fun e => hne (by cases e; rfl))
  exact this.trans h
theorem size_set (W : World) (b : Nat) (v : Value) : (W.setCell ⟨b, 0, none⟩ v).heap.size = W.heap.size := by
  show (W.heap.modify b _).size = _
  simp
end Go.Proofs.YtnlgnmlobklobaaDoor.Rf
set_option linter.unusedVariables false
set_option linter.unusedSimpArgs false
namespace Go.Proofs.YtnlgnmlobklobaaDoor.Grp
/-- A power modulo the prime. -/
def pw (x e : Nat) : Nat := x ^ e % 2147483579
theorem pw_lt (x e : Nat) : pw x e < 2147483579 := Nat.mod_lt _ (by decide)
theorem pw_zero (x : Nat) : pw x 0 = 1 := by unfold pw; rw [Nat.pow_zero]
theorem pw_one {x : Nat} (h : x < 2147483579) : pw x 1 = x := by unfold pw; rw [Nat.pow_one, Nat.mod_eq_of_lt h]
theorem pw_add (x a b : Nat) : pw x (a + b) = pw x a * pw x b % 2147483579 := by unfold pw; rw [Nat.pow_add, Nat.mul_mod]
theorem pw_succ (x a : Nat) : pw x (a + 1) = pw x a * x % 2147483579 := by unfold pw; rw [Nat.pow_succ, Nat.mul_mod, Nat.mul_mod (x ^ a % 2147483579) x, Nat.mod_mod]
theorem pw_mod (x e : Nat) : pw (x % 2147483579) e = pw x e := by unfold pw; rw [← Nat.pow_mod]
theorem pw_mul (x a b : Nat) : pw x (a * b) = pw (pw x a) b := by unfold pw; rw [Nat.pow_mul, ← Nat.pow_mod]
theorem pw_base (x y e : Nat) : pw (x * y % 2147483579) e = pw x e * pw y e % 2147483579 := by rw [pw_mod]; unfold pw; rw [Nat.mul_pow, Nat.mul_mod]
theorem one_pw (e : Nat) : pw 1 e = 1 := by unfold pw; rw [Nat.one_pow]
theorem zero_pw {e : Nat} (h : 0 < e) : pw 0 e = 0 := by unfold pw; rw [Nat.zero_pow h]
/-! ### the fast way -/
def fp (m : Nat) : Nat → Nat → Nat → Nat → Nat
  | 0, _, _, acc => acc
  | n + 1, b, e, acc => if e = 0 then acc else fp m n (b * b % m) (e / 2) (if e % 2 = 1 then acc * b % m else acc)
theorem sq_pow (m b e : Nat) (k : Nat) (h : e = 2 * k) : b ^ e % m = (b * b % m) ^ k % m := by
  rw [h, Nat.pow_mul, ← Nat.pow_mod, Nat.pow_two]
theorem fp_eq (m : Nat) : ∀ (n b e acc : Nat), e < 2 ^ n → acc < m → fp m n b e acc = acc * b ^ e % m
  | 0, b, e, acc, he, ha => by
    obtain rfl : e = 0 := by simpa using he
    rw [fp, Nat.pow_zero, Nat.mul_one, Nat.mod_eq_of_lt ha]
  | n + 1, b, e, acc, he, ha => by
    rw [fp]
    by_cases h : e = 0
    · rw [if_pos h, h, Nat.pow_zero, Nat.mul_one, Nat.mod_eq_of_lt ha]
    · rw [if_neg h]
      have hm : 0 < m := by omega
      have h2 : e / 2 < 2 ^ n := by rw [Nat.pow_succ] at he; omega
      by_cases h1 : e % 2 = 1
      · rw [if_pos h1, fp_eq m n _ _ _ h2 (Nat.mod_lt _ hm)]
        have e1 : e = 2 * (e / 2) + 1 := by omega
        have e2 : b ^ e = b * b ^ (2 * (e / 2)) := by
          conv => lhs; rw [e1]
          rw [Nat.pow_succ, Nat.mul_comm]
        rw [e2, ← Nat.mul_assoc, Nat.mul_mod, Nat.mod_mod, ← sq_pow m b (2 * (e / 2)) _ rfl, ← Nat.mul_mod]
      · rw [if_neg h1, fp_eq m n _ _ _ h2 ha, Nat.mul_mod, ← sq_pow m b e _ (by omega), ← Nat.mul_mod]
theorem fp_step (m b e acc : Nat) (h : 0 < e) (ha : acc < m) : (if e % 2 = 1 then acc * b % m else acc) * (b * b % m) ^ (e / 2) % m = acc * b ^ e % m := by
  have hm : 0 < m := by omega
  by_cases h1 : e % 2 = 1
  · have e1 : e = 2 * (e / 2) + 1 := by omega
    have e2 : b ^ e = b * b ^ (2 * (e / 2)) := by
      conv => lhs; rw [e1]
      rw [Nat.pow_succ, Nat.mul_comm]
    rw [if_pos h1, e2, ← Nat.mul_assoc, Nat.mul_mod, Nat.mod_mod, ← sq_pow m b (2 * (e / 2)) _ rfl, ← Nat.mul_mod]
  · rw [if_neg h1, Nat.mul_mod, ← sq_pow m b e _ (by omega), ← Nat.mul_mod]
theorem pw_fp (x e : Nat) (h : e < 2 ^ 31) : pw x e = fp 2147483579 31 x e 1 := by rw [fp_eq _ _ _ _ _ h (by decide), Nat.one_mul]; rfl
theorem four_el : pw 4 1073741789 = 1 := by rw [pw_fp _ _ (by decide)]; decide +kernel
theorem nine_el : pw 9 1073741789 = 1 := by rw [pw_fp _ _ (by decide)]; decide +kernel
/-! ### elements of the group -/
def El (x : Nat) : Prop := x < 2147483579 ∧ pw x 1073741789 = 1
theorem El.four : El 4 := ⟨by decide, four_el⟩
theorem El.nine : El 9 := ⟨by decide, nine_el⟩
theorem El.one : El 1 := ⟨by decide, one_pw _⟩
theorem El.pow {x : Nat} (h : El x) (e : Nat) : El (pw x e) := ⟨pw_lt _ _, by rw [← pw_mul, Nat.mul_comm, pw_mul, h.2, one_pw]⟩
theorem El.mul {x y : Nat} (h : El x) (h' : El y) : El (x * y % 2147483579) := ⟨Nat.mod_lt _ (by decide), by rw [pw_base, h.2, h'.2]⟩
theorem El.pos {x : Nat} (h : El x) : 0 < x := by
  rcases Nat.eq_zero_or_pos x with h0 | h0
  · have := h.2
    rw [h0, zero_pw (by decide)] at this
    exact absurd this (by decide)
  · exact h0
/-- Exponents count modulo the order. -/
theorem El.exp {x : Nat} (h : El x) (e : Nat) : pw x (e % 1073741789) = pw x e := by
  conv => rhs; rw [← Nat.div_add_mod e 1073741789]
  rw [pw_add, pw_mul, h.2, one_pw, Nat.one_mul, Nat.mod_eq_of_lt (pw_lt _ _)]
theorem El.exp_eq {x a b : Nat} (h : El x) (e : a % 1073741789 = b % 1073741789) : pw x a = pw x b := by rw [← h.exp a, ← h.exp b, e]
/-- The inverse. -/
def inv (x : Nat) : Nat := pw x 1073741788
theorem El.inv_mul {x : Nat} (h : El x) : inv x * x % 2147483579 = 1 := by
  have := pw_succ x 1073741788
  rw [show (1073741788 + 1 : Nat) = 1073741789 from rfl, h.2] at this
  exact this.symm
theorem El.inv {x : Nat} (h : El x) : El (inv x) := h.pow _
theorem El.cancel {x a b : Nat} (h : El x) (e : x * a % 2147483579 = x * b % 2147483579) : a % 2147483579 = b % 2147483579 := by
  have k : ∀ a, Grp.inv x * (x * a % 2147483579) % 2147483579 = a % 2147483579 := fun a => by
    rw [Nat.mul_mod, Nat.mod_mod, ← Nat.mul_mod, ← Nat.mul_assoc, Nat.mul_mod, h.inv_mul, Nat.one_mul, Nat.mod_mod]
  rw [← k a, ← k b, e]
theorem mul_mod_l (a b : Nat) : a % 2147483579 * b % 2147483579 = a * b % 2147483579 := by rw [Nat.mul_mod, Nat.mod_mod, ← Nat.mul_mod]
theorem mul_mod_r (a b : Nat) : a * (b % 2147483579) % 2147483579 = a * b % 2147483579 := by rw [Nat.mul_mod, Nat.mod_mod, ← Nat.mul_mod]
/-- (x^-1)^e * x^e = 1. -/
theorem El.inv_pow {x : Nat} (h : El x) (e : Nat) : pw (Grp.inv x) e * pw x e % 2147483579 = 1 := by rw [← pw_base, h.inv_mul, one_pw]
/-! ### the order is a prime -/
def chk : Nat → Nat → Bool
  | 0, lo => 1073741789 % lo != 0
  | n + 1, lo => chk n lo && chk n (lo + 2 ^ n)
theorem chk_ok : ∀ (n lo : Nat), chk n lo = true → ∀ d, lo ≤ d → d < lo + 2 ^ n → 1073741789 % d ≠ 0
  | 0, lo, h, d, h1, h2 => by
    rw [chk] at h
    obtain rfl : d = lo := by simp at h2; omega
    simpa using h
  | n + 1, lo, h, d, h1, h2 => by
    rw [chk, Bool.and_eq_true] at h
    by_cases hd : d < lo + 2 ^ n
    · exact chk_ok n lo h.1 d h1 hd
    · exact chk_ok n (lo + 2 ^ n) h.2 d (by omega) (by rw [Nat.pow_succ] at h2; omega)
theorem chk_all : chk 15 2 = true := by decide +kernel
theorem q_prime {d : Nat} (h : d ∣ 1073741789) : d = 1 ∨ d = 1073741789 := by
  have hlow : ∀ d, 2 ≤ d → d ≤ 32769 → ¬ d ∣ 1073741789 := fun d h1 h2 h => chk_ok 15 2 chk_all d h1 (by omega) (Nat.mod_eq_zero_of_dvd h)
  obtain ⟨c, hc⟩ := h
  have hd0 : d ≠ 0 := fun h0 => by rw [h0, Nat.zero_mul] at hc; exact absurd hc (by decide)
  have hc0 : c ≠ 0 := fun h0 => by rw [h0, Nat.mul_zero] at hc; exact absurd hc (by decide)
  by_cases h1 : d = 1
  · exact .inl h1
  · by_cases h2 : c = 1
    · right; rw [h2, Nat.mul_one] at hc; exact hc.symm
    · exfalso
      have hd : 32769 < d := Nat.lt_of_not_le fun h => hlow d (by omega) h ⟨c, hc⟩
      have hcl : 32769 < c := Nat.lt_of_not_le fun h => hlow c (by omega) h ⟨d, by rw [Nat.mul_comm]; exact hc⟩
      have := Nat.mul_le_mul (Nat.le_of_lt hd) (Nat.le_of_lt hcl)
      omega
theorem q_coprime {k : Nat} (h0 : 0 < k) (h1 : k < 1073741789) : Nat.Coprime k 1073741789 := by
  rcases q_prime (Nat.gcd_dvd_right k 1073741789) with h | h
  · exact h
  · have := Nat.le_of_dvd h0 (Nat.gcd_dvd_left k 1073741789)
    omega
/-! ### Fermat -/
def ch : Nat → Nat → Nat
  | _, 0 => 1
  | 0, _ + 1 => 0
  | n + 1, k + 1 => ch n k + ch n (k + 1)
theorem ch_out : ∀ (n k : Nat), n < k → ch n k = 0
  | n, 0, h => by omega
  | 0, k + 1, _ => by rw [ch]
  | n + 1, k + 1, h => by rw [ch, ch_out n k (by omega), ch_out n (k + 1) (by omega)]
theorem ch_self : ∀ n, ch n n = 1
  | 0 => by rw [ch]
  | n + 1 => by rw [ch, ch_self n, ch_out n (n + 1) (by omega)]
theorem ch_zero (n : Nat) : ch n 0 = 1 := by cases n <;> rw [ch]
theorem ch_mul : ∀ (n k : Nat), (k + 1) * ch (n + 1) (k + 1) = (n + 1) * ch n k
  | 0, 0 => by decide
  | 0, k + 1 => by rw [ch_out 1 (k + 1 + 1) (by omega), ch_out 0 (k + 1) (by omega)]; simp
  | n + 1, 0 => by
    have h := ch_mul n 0
    have e : ch (n + 1 + 1) (0 + 1) = ch (n + 1) 0 + ch (n + 1) (0 + 1) := rfl
    rw [e, ch_zero]
    rw [ch_zero] at h
    omega
  | n + 1, k + 1 => by
    have h1 := ch_mul n k
    have h2 := ch_mul n (k + 1)
    have e1 : ch (n + 2) (k + 2) = ch (n + 1) (k + 1) + ch (n + 1) (k + 2) := by rw [ch]
    have e2 : ch (n + 1) (k + 1) = ch n k + ch n (k + 1) := by rw [ch]
    show (k + 2) * ch (n + 2) (k + 2) = (n + 2) * ch (n + 1) (k + 1)
    rw [e1, Nat.mul_add]
    have h2' : (k + 2) * ch (n + 1) (k + 2) = (n + 1) * ch n (k + 1) := h2
    rw [h2']
    have e3 : (k + 2) * ch (n + 1) (k + 1) = (k + 1) * ch (n + 1) (k + 1) + ch (n + 1) (k + 1) := by rw [Nat.succ_mul]
    rw [e3, h1]
    have e4 : (n + 2) * ch (n + 1) (k + 1) = (n + 1) * ch (n + 1) (k + 1) + ch (n + 1) (k + 1) := by rw [Nat.succ_mul]
    rw [e4]
    have e5 : (n + 1) * ch (n + 1) (k + 1) = (n + 1) * ch n k + (n + 1) * ch n (k + 1) := by rw [e2, Nat.mul_add]
    rw [e5]; omega
def sum (f : Nat → Nat) : Nat → Nat
  | 0 => 0
  | n + 1 => sum f n + f n
theorem sum_add (f g : Nat → Nat) : ∀ n, sum (fun k => f k + g k) n = sum f n + sum g n
  | 0 => rfl
  | n + 1 => by rw [sum, sum, sum, sum_add f g n]; omega
theorem sum_mul (c : Nat) (f : Nat → Nat) : ∀ n, sum (fun k => c * f k) n = c * sum f n
  | 0 => by rw [sum, sum, Nat.mul_zero]
  | n + 1 => by rw [sum, sum, sum_mul c f n, Nat.mul_add]
theorem sum_front (f : Nat → Nat) : ∀ n, sum f (n + 1) = f 0 + sum (fun k => f (k + 1)) n
  | 0 => by rw [sum, sum, sum]; omega
  | n + 1 => by rw [sum, sum_front f n, sum]; omega
theorem sum_ext {f g : Nat → Nat} : ∀ n, (∀ k, k < n → f k = g k) → sum f n = sum g n
  | 0, _ => rfl
  | n + 1, h => by rw [sum, sum, sum_ext n (fun k hk => h k (by omega)), h n (by omega)]
theorem binom (a : Nat) : ∀ n, (a + 1) ^ n = sum (fun k => ch n k * a ^ k) (n + 1)
  | 0 => by simp [sum, ch]
  | n + 1 => by
    rw [Nat.pow_succ, binom a n, Nat.mul_add, Nat.mul_one, sum_front (fun k => ch (n + 1) k * a ^ k) (n + 1)]
    have e1 : sum (fun k => ch (n + 1) (k + 1) * a ^ (k + 1)) (n + 1) = sum (fun k => a * (ch n k * a ^ k)) (n + 1) + sum (fun k => ch n (k + 1) * a ^ (k + 1)) (n + 1) := by
      rw [← sum_add]
      refine sum_ext _ fun k _ => ?_
      show ch (n + 1) (k + 1) * a ^ (k + 1) = _
      rw [ch, Nat.add_mul, Nat.pow_succ]
      congr 1
      rw [Nat.mul_comm a, Nat.mul_assoc]
    have e2 : sum (fun k => ch n (k + 1) * a ^ (k + 1)) (n + 1) = sum (fun k => ch n (k + 1) * a ^ (k + 1)) n := by
      rw [sum, ch_out n (n + 1) (by omega), Nat.zero_mul, Nat.add_zero]
    have e3 := sum_front (fun k => ch n k * a ^ k) n
    have e4 : ch (n + 1) 0 * a ^ 0 = 1 := by rw [ch, Nat.pow_zero]
    have e5 : ch n 0 * a ^ 0 = 1 := by cases n <;> rw [ch, Nat.pow_zero]
    rw [e1, e2, sum_mul, e4, e3, e5, Nat.mul_comm a]
    omega
theorem ch_dvd {k : Nat} (h0 : 0 < k) (h1 : k < 1073741789) : 1073741789 ∣ ch 1073741789 k := by
  obtain ⟨j, rfl⟩ : ∃ j, k = j + 1 := ⟨k - 1, by omega⟩
  have := ch_mul 1073741788 j
  have hd : 1073741789 ∣ (j + 1) * ch 1073741789 (j + 1) := ⟨ch 1073741788 j, this⟩
  exact (Nat.Coprime.symm (q_coprime h0 h1)).dvd_of_dvd_mul_left hd
theorem sum_dvd {d : Nat} {f : Nat → Nat} : ∀ n, (∀ k, k < n → d ∣ f k) → d ∣ sum f n
  | 0, _ => ⟨0, rfl⟩
  | n + 1, h => Nat.dvd_add (sum_dvd n fun k hk => h k (by omega)) (h n (by omega))
theorem frob (Q : Nat) (hQ : Q = 1073741789) (a : Nat) : (a + 1) ^ Q % Q = (a ^ Q + 1) % Q := by
  obtain ⟨R, rfl⟩ : ∃ R, Q = R + 1 := ⟨Q - 1, by omega⟩
  rw [binom a (R + 1), sum_front, sum]
  have hd : R + 1 ∣ sum (fun k => ch (R + 1) (k + 1) * a ^ (k + 1)) R := sum_dvd _ fun k hk => Nat.dvd_trans (by rw [hQ]; exact ch_dvd (by omega) (by omega)) ⟨_, rfl⟩
  obtain ⟨c, hc⟩ := hd
  rw [hc, ch_self, ch_zero, Nat.pow_zero, Nat.one_mul, Nat.one_mul]
  generalize a ^ (R + 1) = y
  rw [show 1 + ((R + 1) * c + y) = (y + 1) + (R + 1) * c by omega, Nat.add_mul_mod_self_left]
theorem fermat (Q : Nat) (hQ : Q = 1073741789) : ∀ a : Nat, a ^ Q % Q = a % Q
  | 0 => by rw [Nat.zero_pow (by omega)]
  | a + 1 => by rw [frob Q hQ, Nat.add_mod, fermat Q hQ a, ← Nat.add_mod]
/-- The inverse modulo the order. -/
theorem q_inv (R : Nat) (hR : R + 1 + 1 = 1073741789) {a : Nat} (h0 : 0 < a) (h1 : a < 1073741789) : a * (a ^ R % 1073741789) % 1073741789 = 1 := by
  have hf := fermat (R + 1 + 1) hR a
  rw [Nat.pow_succ', Nat.pow_succ', hR] at hf
  rw [Nat.mul_mod, Nat.mod_mod, ← Nat.mul_mod]
  generalize a * a ^ R = y at hf ⊢
  have hlt := Nat.mod_lt y (show 0 < 1073741789 by decide)
  have hr : a * (y % 1073741789) % 1073741789 = a % 1073741789 := by rw [Nat.mul_mod, Nat.mod_mod, ← Nat.mul_mod]; exact hf
  generalize y % 1073741789 = r at *
  have hr0 : 0 < r := by
    rcases Nat.eq_zero_or_pos r with h | h
    · rw [h, Nat.mul_zero, Nat.zero_mod, Nat.mod_eq_of_lt h1] at hr; omega
    · exact h
  have hd : 1073741789 ∣ a * (r - 1) := by
    have e1 : a * r = a + a * (r - 1) := by
      obtain ⟨t, rfl⟩ : ∃ t, r = t + 1 := ⟨r - 1, by omega⟩
      rw [Nat.add_sub_cancel, Nat.mul_add, Nat.mul_one, Nat.add_comm]
    rw [e1] at hr
    have hz := Nat.sub_mod_eq_zero_of_mod_eq hr
    rw [Nat.add_sub_cancel_left] at hz
    exact Nat.dvd_of_mod_eq_zero hz
  have h2 := (Nat.Coprime.symm (q_coprime h0 h1)).dvd_of_dvd_mul_left hd
  have := Nat.eq_zero_of_dvd_of_lt h2 (by omega)
  omega
/-- h has the whole order: different exponents below it give different powers. -/
theorem El.order {x d : Nat} (h : El x) (hx : x ≠ 1) (h0 : 0 < d) (h1 : d < 1073741789) : pw x d ≠ 1 := by
  intro e
  refine hx ?_
  obtain ⟨R, hR⟩ : ∃ R, R + 1 + 1 = 1073741789 := ⟨1073741787, rfl⟩
  have h2 := q_inv R hR h0 h1
  have h3 : pw x (d * (d ^ R % 1073741789)) = pw x 1 := h.exp_eq (by rw [h2])
  rw [pw_mul, e, one_pw, pw_one h.1] at h3
  exact h3.symm
theorem El.inj {x a b : Nat} (h : El x) (hx : x ≠ 1) (ha : a < 1073741789) (hb : b < 1073741789) (e : pw x a = pw x b) : a = b := by
  have key : ∀ a b, a < b → b < 1073741789 → pw x a = pw x b → False := fun a b hab hb e => by
    have e1 : pw x b = pw x a * pw x (b - a) % 2147483579 := by rw [← pw_add, show a + (b - a) = b by omega]
    rw [← e] at e1
    have e2 : pw x a * 1 % 2147483579 = pw x a * pw x (b - a) % 2147483579 := by rw [Nat.mul_one, Nat.mod_eq_of_lt (pw_lt _ _)]; exact e1
    have e3 := (h.pow a).cancel e2
    rw [Nat.mod_eq_of_lt (pw_lt x (b - a))] at e3
    exact h.order hx (by omega) (by omega) e3.symm
  rcases Nat.lt_trichotomy a b with h1 | h1 | h1
  · exact (key a b h1 hb e).elim
  · exact h1
  · exact (key b a h1 ha e.symm).elim
end Go.Proofs.YtnlgnmlobklobaaDoor.Grp
