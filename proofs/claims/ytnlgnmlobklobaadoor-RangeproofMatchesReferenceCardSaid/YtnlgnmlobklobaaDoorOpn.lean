/- Arguments opened at a row, whatever their type: what the reader reads as data of a type, the printed kinds (Kd) read too. -/
import Derived.Test.YtnlgnmlobklobaaDoorWWords
import Derived.Lib.SmallJoins
import Derived.ChangeShapes
import Derived.WideShapes
import Derived.Deep.Slices
set_option linter.unusedVariables false
set_option linter.unusedSimpArgs false
namespace Go.Proofs.YtnlgnmlobklobaaDoor.Opn
open Go.ChangeShapes Go.WideShapes Go.ChangeAt Go.RowKit Go.Deep Go.Proofs.YtnlgnmlobklobaaDoorW.PrintWords
section
variable {P : Program} {α β γ : Type}
/-- A kind reads what the reader reads at a type. -/
def O (P : Program) (k : Kd α) (t : TypeId) (wf : α → Prop) : Prop :=
  ∀ (H : Type) (enc : TypeId × Value → H) (w : World) (base : Nat) (spare : Nat → Bool) (held : Bool) (fuel : Nat) (cs : List Value) (y : DataW H × List MemPlace),
    DataW.trod enc P w base spare held fuel t cs = some y → ∃ x, k.K w x cs ∧ wf x
theorem mapM_some {δ ε : Type} {f : δ → Option ε} : ∀ {l : List δ} {ys : List ε}, l.mapM f = some ys → ys.length = l.length ∧ ∀ (i : Nat) x, l[i]? = some x → ∃ y, ys[i]? = some y ∧ f x = some y
  | [], ys, h => by
    simp at h
    subst h
    exact ⟨rfl, fun i x hx => by simp at hx⟩
  | a :: l, ys, h => by
    rw [List.mapM_cons] at h
    obtain ⟨b, hb, h⟩ := Option.bind_eq_some_iff.1 h
    obtain ⟨bs, hbs, h⟩ := Option.bind_eq_some_iff.1 h
    have h := Option.some.inj h
    subst h
    obtain ⟨h1, h2⟩ := mapM_some hbs
    refine ⟨by simp [h1], fun i x hx => ?_⟩
    match i, hx with
    | 0, hx => simp at hx; subst hx; exact ⟨b, rfl, hb⟩
    | i + 1, hx => simp at hx; obtain ⟨y, hy, hf⟩ := h2 i x hx; exact ⟨y, by simpa using hy, hf⟩
theorem O.int {t : TypeId} {k : IntKind} (hu : P.underlying t = some (.int k)) : O P (Kd.int k) t (fun x => (Lit.int k x).wf = true) := by
  intro H enc w base spare held fuel cs y h
  cases fuel with
  | zero => simp [DataW.trod] at h
  | succ fuel =>
    unfold DataW.trod at h
    rw [hu] at h
    split at h <;> simp_all
    obtain ⟨⟨rfl, hw⟩, _⟩ := h
    exact ⟨_, rfl, hw⟩
theorem O.bool {t : TypeId} (hu : P.underlying t = some .bool) : O P Kd.bool t (fun _ => True) := by
  intro H enc w base spare held fuel cs y h
  cases fuel with
  | zero => simp [DataW.trod] at h
  | succ fuel =>
    unfold DataW.trod at h
    rw [hu] at h
    split at h <;> try (simp_all; done)
    rename_i b h1
    exact ⟨b, rfl, trivial⟩
theorem O.str {t : TypeId} (hu : P.underlying t = some .string) : O P Kd.string t (fun s => s.size ≤ maxLen) := by
  intro H enc w base spare held fuel cs y h
  cases fuel with
  | zero => simp [DataW.trod] at h
  | succ fuel =>
    unfold DataW.trod at h
    rw [hu] at h
    split at h <;> simp_all
    exact ⟨_, rfl, h.1⟩
/-- The fields from an offset on. -/
def Fs (P : Program) (k : Kd α) (fs : List Field) (off n : Nat) (wf : α → Prop) : Prop :=
  ∀ (H : Type) (enc : TypeId × Value → H) (w : World) (base : Nat) (spare : Nat → Bool) (held : Bool) (fuel : Nat) (cs : List Value), cs.length = n →
    (∀ f ∈ fs, ∃ y, DataW.trod enc P w base spare held fuel f.type ((cs.drop f.offset).take (P.cellsOf f.type)) = some y) → ∃ x, k.K w x (cs.drop off) ∧ wf x
theorem Fs.one {k : Kd α} {f : Field} {off n : Nat} {wf : α → Prop} (h : O P k f.type wf) (ho : f.offset = off) (hn : off + P.cellsOf f.type = n) : Fs P k [f] off n wf := by
  intro H enc w base spare held fuel cs hl hf
  obtain ⟨y, hy⟩ := hf f (by simp)
  rw [ho, List.take_of_length_le (by simp; omega)] at hy
  exact h H enc w base spare held fuel _ y hy
theorem Fs.cons {k : Kd α} {k' : Kd β} {f : Field} {fs : List Field} {off n : Nat} {wf : α → Prop} {wf' : β → Prop} (h : O P k f.type wf) (ho : f.offset = off) (hs : Fs P k' fs (off + P.cellsOf f.type) n wf') :
    Fs P (Kd.pair k k') (f :: fs) off n (fun x => wf x.1 ∧ wf' x.2) := by
  intro H enc w base spare held fuel cs hl hf
  obtain ⟨y, hy⟩ := hf f (by simp)
  rw [ho] at hy
  obtain ⟨x, hx, hw⟩ := h H enc w base spare held fuel _ y hy
  obtain ⟨x', hx', hw'⟩ := hs H enc w base spare held fuel cs hl (fun g hg => hf g (by simp [hg]))
  refine ⟨(x, x'), ⟨_, _, ?_, hx, hx'⟩, hw, hw'⟩
  rw [← List.drop_drop, List.take_append_drop]
theorem O.struct {k : Kd α} {t : TypeId} {fs : Array Field} {wf : α → Prop} (hu : P.underlying t = some (.struct fs)) (h : Fs P k fs.toList 0 (P.cellsOf t) wf) (g : β → α) (g' : α → β) (hg : ∀ x, g (g' x) = x) :
    O P (Kd.iso k g) t (fun x => wf (g x)) := by
  intro H enc w base spare held fuel cs y hd
  cases fuel with
  | zero => simp [DataW.trod] at hd
  | succ fuel =>
    unfold DataW.trod at hd
    rw [hu] at hd
    dsimp only at hd
    split at hd
    case isFalse => cases hd
    rename_i hl
    obtain ⟨ys, hys, _⟩ := Option.map_eq_some_iff.1 hd
    obtain ⟨h1, h2⟩ := mapM_some hys
    obtain ⟨x, hx, hw⟩ := h H enc w base spare held fuel cs hl (fun f hf => by
      obtain ⟨i, hi⟩ := List.getElem?_of_mem hf
      obtain ⟨z, _, hz⟩ := h2 i f hi
      exact ⟨z, hz⟩)
    refine ⟨g' x, ?_, by show wf (g (g' x)); rw [hg]; exact hw⟩
    rw [List.drop_zero] at hx
    show k.K w (g (g' x)) cs
    rw [hg]
    exact hx
theorem O.array2 {k : Kd α} {t e : TypeId} {wf : α → Prop} (hu : P.underlying t = some (.array 2 e)) (h : O P k e wf) (hc : P.cellsOf t = P.cellsOf e + P.cellsOf e) (g : β → α × α) (g' : α × α → β) (hg : ∀ x, g (g' x) = x) :
    O P (Kd.iso (Kd.pair k k) g) t (fun x => wf (g x).1 ∧ wf (g x).2) := by
  intro H enc w base spare held fuel cs y hd
  cases fuel with
  | zero => simp [DataW.trod] at hd
  | succ fuel =>
    unfold DataW.trod at hd
    rw [hu] at hd
    dsimp only at hd
    split at hd
    case isFalse => cases hd
    rename_i hl
    obtain ⟨ys, hys, _⟩ := Option.map_eq_some_iff.1 hd
    obtain ⟨h1, h2⟩ := mapM_some hys
    obtain ⟨z0, _, hz0⟩ := h2 0 0 (by simp)
    obtain ⟨z1, _, hz1⟩ := h2 1 1 (by simp)
    rw [Nat.zero_mul, List.drop_zero] at hz0
    rw [Nat.one_mul, List.take_of_length_le (by simp; omega)] at hz1
    obtain ⟨x0, hx0, hw0⟩ := h H enc w base spare held fuel _ _ hz0
    obtain ⟨x1, hx1, hw1⟩ := h H enc w base spare held fuel _ _ hz1
    refine ⟨g' (x0, x1), ?_, by rw [hg]; exact hw0, by rw [hg]; exact hw1⟩
    show (Kd.pair k k).K w (g (g' (x0, x1))) cs
    rw [hg]
    exact ⟨_, _, (List.take_append_drop _ _).symm, hx0, hx1⟩
theorem addr_add (a : Addr) (i j : Nat) : (a.add i).add j = a.add (i + j) := by
  unfold Addr.add
  by_cases h : i = 0 <;> by_cases h' : j = 0 <;> simp [h, h', Nat.add_assoc]
theorem row_some {H : Type} {enc : TypeId × Value → H} {w : World} {base : Nat} {spare : Nat → Bool} {held : Bool} {fuel : Nat} {k : Kd α} {e : TypeId} {wf : α → Prop} (h : O P k e wf) (hsz : k.sz = P.cellsOf e) (a : Addr) (len : Nat) (hm : len ≤ maxLen) {ys : List (DataW H × List MemPlace)}
    (hys : ((List.range len).mapM fun i => (w.cells? base (a.add (i * P.cellsOf e)) (P.cellsOf e)).bind (DataW.trod enc P w base spare held fuel e)) = some ys) :
    ∃ xs : List α, xs.length = len ∧ k.C w (some a) len xs ∧ ∀ x ∈ xs, wf x := by
  obtain ⟨h1, h2⟩ := mapM_some hys
  have each : ∀ i, i < len → ∃ (x : α) (c : List Value), c.length = k.sz ∧ k.K w x c ∧ (∀ j u, c[j]? = some u → w.cell? (a.add (i * k.sz + j)) = some u) ∧ wf x := fun i hi => by
    obtain ⟨y, _, hy⟩ := h2 i i (by simp [hi])
    obtain ⟨c, hc, hy⟩ := Option.bind_eq_some_iff.1 hy
    obtain ⟨x, hx, hw⟩ := h H enc w base spare held fuel c y hy
    unfold World.cells? at hc
    split at hc
    · obtain ⟨g1, g2⟩ := mapM_some hc
      refine ⟨x, c, k.K_len hx, hx, fun j u hj => ?_, hw⟩
      have hj' : j < P.cellsOf e := by have := (List.getElem?_eq_some_iff.1 hj).1; rw [g1, List.length_range] at this; exact this
      obtain ⟨v, hv, hcell⟩ := g2 j j (by simp [hj'])
      rw [hj] at hv
      have hv := Option.some.inj hv
      subst hv
      rw [addr_add] at hcell
      rw [hsz]
      exact hcell
    · cases hc
  by_cases h0 : len = 0
  · subst h0
    exact ⟨[], rfl, ⟨rfl, by omega, fun h => by omega⟩, fun x hx => by cases hx⟩
  · obtain ⟨x0, _⟩ := each 0 (by omega)
    have : Inhabited α := ⟨x0⟩
    obtain ⟨X, hX⟩ := choose_lt each
    refine ⟨(List.range len).map X, by simp, ⟨by simp, by unfold maxLen at hm; omega, fun _ => ⟨a, rfl, fun j p hj => ?_⟩⟩, fun y hy => ?_⟩
    · have hjl : j < len := by have := (List.getElem?_eq_some_iff.1 hj).1; simpa using this
      obtain rfl : X j = p := by simpa [hjl] using hj
      obtain ⟨c, hc1, hc2, hc3, _⟩ := hX j hjl
      exact ⟨c, hc1, hc2, hc3⟩
    · obtain ⟨i, hi, rfl⟩ := List.mem_map.1 hy
      obtain ⟨c, _, _, _, hw⟩ := hX i (List.mem_range.1 hi)
      exact hw
theorem O.slice {k : Kd α} {t e : TypeId} {wf : α → Prop} (hu : P.underlying t = some (.slice e)) (h : O P k e wf) (hsz : k.sz = P.cellsOf e) : O P (Kd.slice e k) t (fun xs => ∀ x ∈ xs, wf x) := by
  intro H enc w base spare held fuel cs y hd
  cases fuel with
  | zero => simp [DataW.trod] at hd
  | succ fuel =>
    unfold DataW.trod at hd
    rw [hu] at hd
    split at hd <;> try (simp_all; done)
    · exact ⟨[], ⟨none, 0, rfl, Nat.le_refl _, rfl, by simp, fun h => by simp at h⟩, fun x hx => by cases hx⟩
    · rename_i e' a len cap h1
      obtain rfl : e = e' := by simpa using h1
      dsimp only at hd
      split at hd
      · rename_i hc
        obtain ⟨ys, hys, _⟩ := Option.bind_eq_some_iff.1 hd
        obtain ⟨xs, hxl, hC, hw⟩ := row_some h hsz a len (by omega) hys
        refine ⟨xs, ⟨some a, cap, by rw [hxl], by omega, ?_⟩, hw⟩
        rw [hxl]
        exact hC
      · cases hd
end
section
variable {P : Program} {α : Type} {H : Type} {enc : TypeId × Value → H} {W : World} {base : Nat} {spare : Nat → Bool} {held : Bool}
theorem arg {k : Kd α} {t : TypeId} {wf : α → Prop} (h : O P k t wf) {v : Value} {d : DataW H} {p : List MemPlace} (hd : DataW.Trod enc P W base spare held t v d p) : ∃ x, k.K W x v.cells.toList ∧ wf x := by
  obtain ⟨fuel, hf⟩ := hd
  exact h H enc W base spare held fuel _ _ hf
theorem okWide_struct {t : TypeId} {fs : Array Field} {r : Reach} {b0 : Nat} {v : Value} (ht : P.underlying t = some (.struct fs)) (h : Value.okWide P W r b0 t v) : ∃ cs, v = .agg cs := by
  simp only [Value.okWide, ht] at h
  obtain ⟨cs, h1, _⟩ := h
  exact ⟨cs, h1⟩
theorem arg_slice {k : Kd α} {e t : TypeId} {wf : List α → Prop} (h : O P (Kd.slice e k) t wf) {a : Option Addr} {len cap : Nat} {d : DataW H} {p : List MemPlace} (hd : DataW.Trod enc P W base spare held t (.slice a len cap) d p) :
    ∃ z : List α, z.length = len ∧ len ≤ cap ∧ k.C W a len z ∧ wf z := by
  obtain ⟨z, ⟨A, c, h1, h2, h3⟩, hw⟩ := arg h hd
  simp [Value.cells] at h1
  obtain ⟨rfl, rfl, rfl⟩ := h1
  exact ⟨z, rfl, h2, h3, hw⟩
end
end Go.Proofs.YtnlgnmlobklobaaDoor.Opn
