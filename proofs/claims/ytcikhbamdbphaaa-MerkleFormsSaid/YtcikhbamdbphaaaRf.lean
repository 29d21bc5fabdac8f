/- A range over a function whose closure keeps its state in captured cells: one round; the statement. The joint walk of loop and iterator says what lies in the heap. -/
import Derived.RangeFuncNested
import Derived.RangeFuncBound
import Derived.RangeFuncCalls
import Derived.RangeFuncLeaves
namespace Go.Proofs.Ytcikhbamdbphaaa.Rf
open Go.RowKit
variable {F : Fence} {n : Nat} {P : Program}

/-- The loop's record. -/
abbrev recd (st : LoopState) (pe : Option Code) (fn : FuncId) (tmps : Array Value) (ps : Array Tmp) (assign body : Code) (D : Nat) : Obj := .loop { state := st, pending := pe, fn := fn, tmps := tmps, params := ps, assign := assign, body := body, defers := D }

/-- One round of a loop whose body falls off its end, or returns. -/
theorem yield_round {l D : Nat} {fn : FuncId} {tmps : Array Value} {ps : Array Tmp} {assign body : Code} {args : Array Value} {W : World} {R : Bool → World → Prop} (hfn : F.fn fn)
    (hl : W.heap[l]? = some (recd .ready none fn tmps ps assign body D)) (hs : args.size = ps.size) (a₁ : Act)
    (hA : ∀ K : Act → World → Prop, K a₁ W → assign.wpIn (F.inRound l) n P (Exit.then K (fun _ _ _ => False)) { tmps := (ps.zip args).foldl (fun t (p, v) => t.setIfInBounds p v) tmps, defers := [] } W)
    (hB : body.wpIn (F.inRound l) n P (fun e _ W' => match e with
      | .normal => W'.heap[l]? = some (recd .busy none fn tmps ps assign body D) ∧ R true (W'.putObj l (recd .ready none fn tmps ps assign body D))
      | .ret => W'.heap[l]? = some (recd .busy none fn tmps ps assign body D) ∧ R false (W'.putObj l (recd .done (some .ret) fn tmps ps assign body D))
      | _ => False) a₁ (W.putObj l (recd .busy none fn tmps ps assign body D))) :
    YieldAt F n P l args W fun e W' => ∃ b, e = .returned (.bool b) ∧ R b W' := by
  refine ⟨fn, _, assign, body, run_yield hl hs, roundIn_of_wpIn hfn (hA _ ⟨_, run_beginRound hl rfl, wpIn_mono hB ?_⟩)⟩
  rintro e a3 W3 hp
  cases e with
  | normal => exact ⟨_, _, run_endRound none hp.1, true, rfl, hp.2⟩
  | ret => exact ⟨_, _, run_endRound (some .ret) hp.1, false, rfl, hp.2⟩
  | exit id => exact hp.elim
  | goto t => exact hp.elim
  | panic ch => exact hp.elim
  | outgrown => exact hp.elim

-- The statement: the record laid, the iterator run, the record read.
set_option maxHeartbeats 1000000 in
theorem enter_range {g : Operand} {ps : Array Tmp} {assign body : Code} {Q : Exit → Act → World → Prop} {a : Act} {w : World}
    (hro : F.round = none) (h1 : 1 ≤ n) {gf : Nat} {lb : Array Value} (hg : a.eval g = .func (.func gf) #[] lb) (hFg : F.fn gf) (eg : ∀ args w, (callFunc gf args).run P w = .ok (.enter gf args) w)
    (h : ∀ fn, F.fn fn → CallsIn F (n - 1) P gf (#[.func (.yield (w.heap.size + 1)) #[] #[]] ++ lb) ((w.alloc (.deferred (some []))).alloc (recd .ready none fn a.tmps ps assign body w.heap.size)) fun e W2 =>
      ∃ v st pe, e = .returned v ∧ st ≠ .busy ∧ W2.heap[w.heap.size + 1]? = some (recd st pe fn a.tmps ps assign body w.heap.size) ∧
        (match pe with
          | none => Q .normal { a with defers := { target := .collected w.heap.size, args := #[] } :: a.defers } (W2.putObj (w.heap.size + 1) (recd .exhausted pe fn a.tmps ps assign body w.heap.size))
          | some c => c.wpIn F n P Q { a with defers := { target := .collected w.heap.size, args := #[] } :: a.defers } (W2.putObj (w.heap.size + 1) (recd .exhausted pe fn a.tmps ps assign body w.heap.size)))) :
    (Code.rangeFunc g ps assign body).wpIn F n P Q a w := by
  refine wpIn_rangeFunc ?_
  intro fn hfn
  rw [hro]
  have hc := h fn hfn
  clear h
  have hent := run_enterLoop_outer (P := P) (w := w) fn a.tmps ps assign body
  generalize (w.alloc (.deferred (some []))).alloc (recd .ready none fn a.tmps ps assign body w.heap.size) = W1 at *
  refine ⟨w.heap.size + 1, [{ target := .collected w.heap.size, args := #[] }], W1, { target := .fn (.func gf) lb, args := #[.func (.yield (w.heap.size + 1)) #[] #[]] }, W1, gf,
    #[.func (.yield (w.heap.size + 1)) #[] #[]] ++ lb, W1, hent, ?_, ?_, ?_, fun _ => h1, ?_⟩
  · simp only [resolve, hg]
    simp [go_sem]
  · intro f' hf'; simp [Target.leads] at hf'; subst hf'; exact hFg
  · simp [invoke, go_sem, eg]
  · refine hc.mono ?_
    rintro e W2 ⟨v, st, pe, rfl, hst, hl, hp⟩
    have he : (Instr.endLoop (w.heap.size + 1)).run P W2 = .ok pe (W2.putObj (w.heap.size + 1) (recd .exhausted pe fn a.tmps ps assign body w.heap.size)) := run_endLoop hl hst
    cases pe with
    | none => exact ⟨none, _, he, hp⟩
    | some c => exact ⟨some c, _, he, hp⟩
/-- The same, the record under a name. -/
theorem enter {g : Operand} {ps : Array Tmp} {assign body : Code} {Q : Exit → Act → World → Prop} {a : Act} {w : World}
    (hro : F.round = none) (h1 : 1 ≤ n) {gf : Nat} {lb : Array Value} (hg : a.eval g = .func (.func gf) #[] lb) (hFg : F.fn gf) (eg : ∀ args w, (callFunc gf args).run P w = .ok (.enter gf args) w)
    (H : Nat) (hH : w.heap.size = H)
    (h : ∀ fn, F.fn fn → ∀ R : LoopState → Option Code → Obj, (∀ st pe, R st pe = recd st pe fn a.tmps ps assign body H) →
      CallsIn F (n - 1) P gf (#[.func (.yield (H + 1)) #[] #[]] ++ lb) ((w.alloc (.deferred (some []))).alloc (R .ready none)) fun e W2 =>
      ∃ v st pe, e = .returned v ∧ st ≠ .busy ∧ W2.heap[H + 1]? = some (R st pe) ∧
        (match pe with
          | none => Q .normal { a with defers := { target := .collected H, args := #[] } :: a.defers } (W2.putObj (H + 1) (R .exhausted pe))
          | some c => c.wpIn F n P Q { a with defers := { target := .collected H, args := #[] } :: a.defers } (W2.putObj (H + 1) (R .exhausted pe)))) :
    (Code.rangeFunc g ps assign body).wpIn F n P Q a w := by
  subst hH
  refine enter_range hro h1 hg hFg eg fun fn hfn => ?_
  have := h fn hfn (fun st pe => recd st pe fn a.tmps ps assign body w.heap.size) (fun _ _ => rfl)
  exact this
/-- What a round's body owes at its ends: the record is busy; S of the world behind the round (true: it goes on; false: it has returned). -/
def RoundEnds (l : Nat) (R : LoopState → Option Code → Obj) (S : Bool → World → Prop) : Exit → Act → World → Prop
  | .normal, _, W' => W'.heap[l]? = some (R .busy none) ∧ S true (W'.putObj l (R .ready none))
  | .ret, _, W' => W'.heap[l]? = some (R .busy none) ∧ S false (W'.putObj l (R .done (some .ret)))
  | _, _, _ => False
/-- Between the assignment of the loop's variables and the body. -/
def RoundBody (F : Fence) (n : Nat) (P : Program) (l : Nat) (R : LoopState → Option Code → Obj) (S : Bool → World → Prop) (body : Code) (W : World) (a : Act) (W1 : World) : Prop :=
  W1 = W ∧ body.wpIn (F.inRound l) n P (RoundEnds l R S) a (W.putObj l (R .busy none))
theorem round {l D : Nat} {fn : FuncId} {tmps : Array Value} {ps : Array Tmp} {assign body : Code} {args : Array Value} {W : World} {S : Bool → World → Prop} {R : LoopState → Option Code → Obj}
    (hR : ∀ st pe, R st pe = recd st pe fn tmps ps assign body D) (hfn : F.fn fn) (hl : W.heap[l]? = some (R .ready none)) (hs : args.size = ps.size)
    (h : assign.wpIn (F.inRound l) n P (Exit.then (RoundBody F n P l R S body W) (fun _ _ _ => False))
      { tmps := (ps.zip args).foldl (fun t (p, v) => t.setIfInBounds p v) tmps, defers := [] } W) :
    YieldAt F n P l args W fun e W' => ∃ b, e = .returned (.bool b) ∧ S b W' := by
  have hl' := hl
  rw [hR] at hl'
  refine ⟨fn, _, assign, body, run_yield hl' hs, roundIn_of_wpIn hfn (wpIn_mono h ?_)⟩
  rintro e a1 W1 hp
  cases e with
  | normal =>
    obtain ⟨rfl, hb⟩ := hp
    refine ⟨_, run_beginRound hl' rfl, ?_⟩
    have hb' := hb
    rw [hR] at hb'
    refine wpIn_mono hb' ?_
    rintro e a3 W3 hp
    cases e with
    | normal => obtain ⟨h1, h2⟩ := hp; rw [hR] at h1 h2; exact ⟨_, _, run_endRound none h1, true, rfl, h2⟩
    | ret => obtain ⟨h1, h2⟩ := hp; rw [hR] at h1 h2; exact ⟨_, _, run_endRound (some .ret) h1, false, rfl, h2⟩
    | exit id => exact hp.elim
    | goto t => exact hp.elim
    | panic ch => exact hp.elim
    | outgrown => exact hp.elim
  | ret => exact hp.elim
  | exit id => exact hp.elim
  | goto t => exact hp.elim
  | panic ch => exact hp.elim
  | outgrown => exact hp.elim
theorem alloc_old {w : World} {k : Nat} {x : Obj} (o : Obj) (h : w.heap[k]? = some x) : (w.alloc o).heap[k]? = some x :=
  ((World.grownBy_alloc w o none).block k (Array.getElem?_eq_some_iff.1 h).1 (by simp)).trans h
theorem alloc_new (w : World) (o : Obj) {n : Nat} (h : w.heap.size = n) : (w.alloc o).heap[n]? = some o := by subst h; exact World.alloc_heap_new w o
theorem four (w : World) (a b c d : Obj) : ∃ W, (((w.alloc a).alloc b).alloc c).alloc d = W ∧ W.heap[w.heap.size]? = some a ∧ W.heap[w.heap.size + 1]? = some b ∧ W.heap[w.heap.size + 2]? = some c ∧
    W.heap[w.heap.size + 3]? = some d ∧ W.heap.size = w.heap.size + 4 ∧ Below w.heap.size w W :=
  ⟨_, rfl, alloc_old _ (alloc_old _ (alloc_old _ (alloc_new _ _ rfl))), alloc_old _ (alloc_old _ (alloc_new _ _ (by simp))), alloc_old _ (alloc_new _ _ (by simp)), alloc_new _ _ (by simp), by simp,
    (((((Below.refl _ w).alloc (Nat.le_refl _) a).alloc (by simp) b).alloc (by simp; omega) c).alloc (by simp; omega) d)⟩
theorem five (w : World) (a b c d e : Obj) : ∃ W, ((((w.alloc a).alloc b).alloc c).alloc d).alloc e = W ∧ W.heap[w.heap.size]? = some a ∧ W.heap[w.heap.size + 1]? = some b ∧ W.heap[w.heap.size + 2]? = some c ∧
    W.heap[w.heap.size + 3]? = some d ∧ W.heap[w.heap.size + 4]? = some e ∧ W.heap.size = w.heap.size + 5 ∧ Below w.heap.size w W := by
  obtain ⟨W, rfl, h0, h1, h2, h3, hs, hb⟩ := four w a b c d
  exact ⟨_, rfl, alloc_old _ h0, alloc_old _ h1, alloc_old _ h2, alloc_old _ h3, alloc_new _ _ hs, by rw [World.size_alloc, hs], hb.alloc (by omega) e⟩
theorem size_put (W : World) (l : Nat) (o : Obj) : (W.putObj l o).heap.size = W.heap.size := by simp [World.putObj]
theorem put_same {W : World} {l : Nat} {x : Obj} (o : Obj) (h : W.heap[l]? = some x) : (W.putObj l o).heap[l]? = some o := by
  have hlt : l < W.heap.size := (Array.getElem?_eq_some_iff.1 h).1
  simp [World.putObj, hlt]
theorem put_other {W : World} {l k : Nat} {o x : Obj} (h : W.heap[k]? = some x) (hne : k ≠ l) : (W.putObj l o).heap[k]? = some x := by
  have := (grownBy_putObj' W l o).block k (Array.getElem?_eq_some_iff.1 h).1 (fun e => hne (by cases e; rfl))
  exact this.trans h
theorem below_put {B l : Nat} {w W : World} {o : Obj} (h : Below B w W) (hl : B ≤ l) (hs : B ≤ W.heap.size) : Below B w (W.putObj l o) :=
  h.grown (grownBy_putObj' W l o) hs (fun k e => by cases e; exact hl)
theorem set_other {W : World} {b k : Nat} {v : Value} {x : Obj} (h : W.heap[k]? = some x) (hne : k ≠ b) : (W.setCell ⟨b, 0, none⟩ v).heap[k]? = some x := by
  have := (grownBy_setCell' W b v).block k (Array.getElem?_eq_some_iff.1 h).1 (fun e => hne (by cases e; rfl))
  exact this.trans h
theorem size_set (W : World) (b : Nat) (v : Value) : (W.setCell ⟨b, 0, none⟩ v).heap.size = W.heap.size := by
  show (W.heap.modify b _).size = _
  simp
end Go.Proofs.Ytcikhbamdbphaaa.Rf
