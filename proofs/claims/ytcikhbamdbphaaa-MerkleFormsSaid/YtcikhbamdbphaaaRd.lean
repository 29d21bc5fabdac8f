/- A region that draws its order, inside a round of a range over a function: what is shown of it in the plain form holds there too. -/
import Derived.OrdersIn
import Derived.OrdersHeld
import Derived.StillTail
import Derived.OwnWalkIn
import Derived.RangeFuncCalls
import Derived.Lib.Hide
namespace Go.Proofs.Ytcikhbamdbphaaa.Rd
open Go.RowKit
def noDefer (o : Oper) : Bool := match o.op with | .defer _ => false | _ => true
theorem noDefer_spec {o : Oper} (h : noDefer o = true) : ∀ c, o.op ≠ .defer c := by
  intro c e
  rw [noDefer, e] at h
  cases h
theorem rows_wide {n : Nat} {P : Program} {row : String} {args : Array Value} {w : World} {R : Value → World → Prop} (h : Rows P row args w R) : RowsIn Fence.wide n P row args w R :=
  fun c cs _ => let ⟨v, w', r, s⟩ := h c cs; ⟨v, w', r, stepsIn_wide.2 s⟩
section
variable {P : Program} {Q : Exit → Act → World → Prop} {n l : Nat} {ops : Array Oper} {md : Region.Mode}
theorem oper_round {o : Oper} {a : Act} {w : World} {K : Act → World → Prop} (hd : noDefer o = true) (h : o.wp P a w K Q) : o.wpIn (Fence.wide.inRound l) n P a w K Q := by
  refine ⟨fun _ _ => trivial, ?_⟩
  rw [show (Fence.wide.inRound l).round = some l from rfl, Oper.semAt_some l _ _ (noDefer_spec hd)]
  unfold Oper.wp at h
  generalize (execOp a.eval o).run P w = r at *
  unfold Oper.upon at h
  split at h
  · exact h
  · exact h
  · exact h
  · refine ⟨fun e => by simp [Fence.wide] at e, ?_⟩
    exact CallsIn.inRound l (callsIn_wide.2 h)
  · refine ⟨fun e => by simp [Fence.wide] at e, ?_⟩
    exact rows_wide h
  · exact h
  · exact h.elim
theorem op_round {i : Nat} {a : Act} {w : World} {K K' : Act → World → Prop} (hq : ¬ LetsOut Q) (hd : ∀ o, ops[i]? = some o → noDefer o = true) (hK : ∀ a w, K a w → K' a w) (h : wpOp P ops Q i K a w) : wpOpIn (Fence.wide.inRound l) n P ops Q i K' a w := by
  unfold wpOp at h
  unfold wpOpIn
  cases ho : ops[i]? with
  | none => rw [ho] at h; exact hK _ _ h
  | some o =>
    rw [ho] at h
    simp only at h ⊢
    split at h
    · rename_i hw
      rw [if_pos hw]
      rcases h with h | h
      · exact Oper.wpIn_mono hK (oper_round (hd o ho) h)
      · exact absurd h.2 hq
    · rename_i hw
      rw [if_neg hw]
      exact ⟨fun _ _ => trivial, hK _ _ h⟩
theorem any_round (hq : ¬ LetsOut Q) (hd : ∀ (i : Nat) (o : Oper), ops[i]? = some o → noDefer o = true) : ∀ (fuel : Nat) (listed : Array Bool) (a : Act) (w : World), wpAny P md ops Q fuel listed a w → wpAnyIn (Fence.wide.inRound l) n P md ops Q fuel listed a w
  | 0, _, _, _, h => h
  | fuel + 1, _, _, _, h => ⟨h.1, fun i hi => op_round hq (hd i) (fun _ _ h => any_round hq hd fuel _ _ _ h) (h.2 i hi)⟩
theorem defers_of {l : List Oper} (h : l.all noDefer = true) : ∀ (i : Nat) (o : Oper), l.toArray[i]? = some o → noDefer o = true := by
  intro i o ho
  rw [List.all_eq_true] at h
  refine h o (List.mem_of_getElem? (i := i) ?_)
  simpa using ho
/-- Whatever order is picked from here on, and S holds behind every operation but L, the last one. -/
def anyL (P : Program) (md : Region.Mode) (ops : Array Oper) (Q : Exit → Act → World → Prop) (S : World → Prop) (L : Nat) : Nat → Array Bool → Act → World → Prop
  | 0, listed, a, w => Region.ready md ops listed = [] ∧ Q .normal a w
  | fuel + 1, listed, a, w =>
    (Region.ready md ops listed = [] → Q .normal a w) ∧
    ∀ i ∈ Region.ready md ops listed, wpOp P ops Q i (fun a' w' => (i ≠ L → S w') ∧ anyL P md ops Q S L fuel (listed.setIfInBounds i true) a' w') a w
section
variable {S : World → Prop} {L : Nat}
theorem any_of_L : ∀ (fuel : Nat) (listed : Array Bool) (a : Act) (w : World), anyL P md ops Q S L fuel listed a w → wpAny P md ops Q fuel listed a w
  | 0, _, _, _, h => h
  | fuel + 1, _, _, _, h => ⟨h.1, fun i hi => wpOp_mono (fun a' w' h' => any_of_L fuel _ a' w' h'.2) (h.2 i hi)⟩
theorem not_last {i : Nat} {listed : Array Bool} (hw : Region.waitsFor md ops L i = true) (hr : i ∈ Region.ready md ops listed) : L ∉ Region.ready md ops listed := by
  intro hL
  obtain ⟨oj, hj, e, he, hb, rfl⟩ := Region.waitsFor_spec hw
  obtain ⟨_, o, ho, hall⟩ := mem_ready.1 hL
  obtain rfl : oj = o := by rw [hj] at ho; exact Option.some.inj ho
  have h1 := hall e he hb
  rw [getD_both (mem_ready.1 hr).1] at h1
  cases h1
theorem anyL_first {i : Nat} {oi : Oper} {v : Value} (hi : ops[i]? = some oi) (hsel : ∀ (j : Nat) (o : Oper) cs b, ops[j]? = some o → o.op ≠ .select cs b)
    (hQ : ∀ c a w, Q (.panic c) (a.put oi.dst v) w → Q (.panic c) a w) (hL : Region.waitsFor md ops L i = true) :
    ∀ (fuel : Nat) (listed : Array Bool) (a : Act) (w : World),
      (∀ (j : Nat) oj, ops[j]? = some oj → j ≠ i → listed.getD j true = false → (∀ e ∈ oj.after, Region.binds md e = true → e.on ≠ i) → oi.apart ops oj = true) →
      i ∈ Region.ready md ops listed → YieldsIf P ops S oi v a → S w →
      anyL P md ops Q S L fuel (listed.setIfInBounds i true) (a.put oi.dst v) w → anyL P md ops Q S L (fuel + 1) listed a w := by
  intro fuel
  induction fuel with
  | zero =>
    intro listed a w _ hr hy hS H
    refine ⟨fun h => (by rw [h] at hr; cases hr), fun j hj => ?_⟩
    by_cases hji : j = i
    · subst hji; exact hy.wpOp hi hS ⟨fun _ => hS, H⟩
    · have := ready_mono hj hji
      rw [H.1] at this
      cases this
  | succ fuel ih =>
    intro listed a w hfree hr hy hS H
    refine ⟨fun h => (by rw [h] at hr; cases hr), fun j hj => ?_⟩
    by_cases hji : j = i
    · subst hji; exact hy.wpOp hi hS ⟨fun _ => hS, H⟩
    · have h1 := H.2 j (ready_mono hj hji)
      have hjL : j ≠ L := fun e => not_last hL hr (e ▸ hj)
      obtain ⟨hjun, oj, hoj, hall⟩ := mem_ready.1 hj
      have hnot : ∀ e ∈ oj.after, Region.binds md e = true → e.on ≠ i := fun e he hb heq => by
        have h1 := hall e he hb
        rw [heq, getD_both (mem_ready.1 hr).1] at h1
        cases h1
      have h2 := wpOp_putIf hoj (hfree j oj hoj hji hjun hnot) (fun cs b => hsel i oi cs b hi) (fun cs b => hsel j oj cs b hoj) hQ hy h1
      have hfree' : ∀ (k : Nat) ok, ops[k]? = some ok → k ≠ i → (listed.setIfInBounds j true).getD k true = false →
          (∀ e ∈ ok.after, Region.binds md e = true → e.on ≠ i) → oi.apart ops ok = true := fun k ok hk hki hun hno => by
        refine hfree k ok hk hki ?_ hno
        by_cases hjk : j = k
        · subst hjk; exact hjun
        · rw [getD_set_ne true hjk] at hun; exact hun
      refine wpOp_mono (fun a' w' h3 => ⟨h3.2.1, ih (listed.setIfInBounds j true) a' w' hfree' (ready_mono hr (Ne.symm hji)) h3.1 (h3.2.1 hjL) ?_⟩) h2
      rw [Array.setIfInBounds_comm _ _ hji]
      exact h3.2.2
theorem take {i : Nat} {oi : Oper} {v : Value} {fuel : Nat} {listed : Array Bool} {a : Act} {w : World} (hi : ops[i]? = some oi)
    (hs : Region.noSelect ops = true) (hf : Region.free md ops listed i = true) (hr : (Region.ready md ops listed).contains i = true) (hL : Region.waitsFor md ops L i = true)
    (hQ : ∀ c a w, Q (.panic c) (a.put oi.dst v) w → Q (.panic c) a w) (hy : YieldsIf P ops S oi v a) (hS : S w)
    (h : anyL P md ops Q S L fuel (listed.setIfInBounds i true) (a.put oi.dst v) w) : anyL P md ops Q S L (fuel + 1) listed a w :=
  anyL_first hi (Region.noSelect_spec hs) hQ hL fuel listed a w (Region.free_spec hi hf) (by simpa using hr) hy hS h
theorem one {i : Nat} {o : Oper} {fuel : Nat} {listed : Array Bool} {a : Act} {w : World} (ho : ops[i]? = some o) (hr : Region.ready md ops listed = [i]) (hg : o.guard = none)
    (h : ∀ K : Act → World → Prop, Hid (∀ a' w', (i ≠ L → S w') → anyL P md ops Q S L fuel (listed.setIfInBounds i true) a' w' → K a' w') → o.wp P a w K Q) : anyL P md ops Q S L (fuel + 1) listed a w := by
  refine ⟨fun h0 => (by rw [hr] at h0; cases h0), fun j hj => ?_⟩
  rw [hr] at hj
  obtain rfl : j = i := by simpa using hj
  unfold wpOp
  rw [ho]
  simp only [Region.wanted, hg, if_true]
  exact .inl (h _ (Lib.hid fun _ _ h1 h2 => ⟨h1, h2⟩))
theorem done {listed : Array Bool} {a : Act} {w : World} (hr : Region.ready md ops listed = []) (h : Q .normal a w) : anyL P md ops Q S L 0 listed a w := ⟨hr, h⟩
end
/-- Loads taken first (S says what they read; L is the last operation). -/
theorem held_round {id : Nat} {a : Act} {w : World} {ops : List Oper} (S : World → Prop) (L : Nat) (hm : P.follows .mixedOrders = true) (hd : ops.all noDefer = true) (hq : ¬ LetsOut Q)
    (h : ∀ W, W = w.drew → anyL P .any ops.toArray Q S L ops.toArray.size (Array.replicate ops.toArray.size false) a W) : (Code.region id ops.toArray true).wpIn (Fence.wide.inRound l) n P Q a w :=
  wpIn_region_any hm (any_round hq (defers_of hd) _ _ _ _ (any_of_L _ _ _ _ (h _ rfl)))
theorem held_plain {id : Nat} {a : Act} {w : World} {ops : List Oper} (S : World → Prop) (L : Nat) (hm : P.follows .mixedOrders = true)
    (h : ∀ W, W = w.drew → anyL P .any ops.toArray Q S L ops.toArray.size (Array.replicate ops.toArray.size false) a W) : (Code.region id ops.toArray true).wp P Q a w :=
  wp_region_any hm (any_of_L _ _ _ _ (h _ rfl))
end
end Go.Proofs.Ytcikhbamdbphaaa.Rd
