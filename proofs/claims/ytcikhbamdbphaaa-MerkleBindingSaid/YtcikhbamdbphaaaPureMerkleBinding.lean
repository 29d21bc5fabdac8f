/- The law MerkleBinding, said of the printed functions. -/
import Derived.Test.YtcikhbamdbphaaaPureMer
import Derived.Test.YtcikhbamdbphaaaPAllx8
set_option linter.unusedVariables false
namespace Go.Proofs.Ytcikhbamdbphaaa.PureMerkleBinding
open Go.RowKit Go.Proofs.Ytcikhbamdbphaaa Go.Proofs.Ytcikhbamdbphaaa.PAll Go.Proofs.YtcikhbamdbphaaaW.PrintWords Go.Proofs.YtcikhbamdbphaaaW.PrintLast Go.Proofs.Ytcikhbamdbphaaa.Stub Go.Proofs.Ytcikhbamdbphaaa.PureMer
theorem findC_mem : ∀ l m : List ByteArray, (Mer.findC l m).2.2 = true → (Mer.findC l m).1 ∈ l ∧ (Mer.findC l m).2.1 ∈ m
  | [], [], h => by simp [Mer.findC] at h
  | [], _ :: _, h => by simp [Mer.findC] at h
  | _ :: _, [], h => by simp [Mer.findC] at h
  | x :: l, y :: m, h => by
    rw [Mer.findC] at h ⊢
    by_cases e : x = y
    · rw [if_pos e] at h ⊢
      have := findC_mem l m h
      exact ⟨List.mem_cons_of_mem _ this.1, List.mem_cons_of_mem _ this.2⟩
    · rw [if_neg e] at h ⊢
      by_cases e2 : Dig.sum x = Dig.sum y
      · rw [if_pos e2]
        exact ⟨List.mem_cons_self, List.mem_cons_self⟩
      · rw [if_neg e2] at h ⊢
        have := findC_mem l m h
        exact ⟨List.mem_cons_of_mem _ this.1, List.mem_cons_of_mem _ this.2⟩
theorem coll_size {s i : Int} {a b : ByteArray} {r r' : List (Int × Bool)} (ha : a.size ≤ 140737488351232) (hb : b.size ≤ 140737488351232) (h : (Mer.collF s i a r b r').2.2 = true) :
    (Mer.collF s i a r b r').1.size ≤ 9223372036854775807 ∧ (Mer.collF s i a r b r').2.1.size ≤ 9223372036854775807 := by
  cases h1 : Mer.texts s i a r with
  | none => rw [Mer.collF_none (.inl h1)] at h; cases h
  | some l =>
    cases h2 : Mer.texts s i b r' with
    | none => rw [Mer.collF_none (.inr h2)] at h; cases h
    | some m =>
      rw [Mer.collF_some h1 h2] at h ⊢
      split at h
      · rename_i he
        rw [if_pos he]
        have p1 := (Mer.texts_props h1 ha).2
        have p2 := (Mer.texts_props h2 hb).2
        unfold Mer.FC at h ⊢
        have := findC_mem _ _ h
        have q1 := p1 _ (List.mem_of_mem_drop this.1)
        have q2 := p2 _ (List.mem_of_mem_drop this.2)
        omega
      · cases h
theorem sum_f {x : ByteArray} (h : x.size ≤ 9223372036854775807) : digest_Sum.f x = some (Dig.sum x) := by unfold digest_Sum.f; rw [if_pos h]
theorem list_ne {x y : ByteArray} (h : x ≠ y) : ¬ x.toList = y.toList := fun e => h (by rw [ByteArray.toList_eq, ByteArray.toList_eq] at e; exact ByteArray.ext (Array.toList_inj.mp e))
theorem same_b (l m : List S42) (hl : l.length ≤ 20) (k : Nat) (hk : l.length < k) : wageofficeref24_Same.f k l m = some (decide (l.map toP = m.map toP)) := by
  rw [same_eq l m (by omega) k hk]
  by_cases h : l.length = m.length
  · rw [if_pos h]
    congr 1
    rw [Bool.eq_iff_iff, sameB_iff, decide_eq_true_iff]
  · rw [if_neg h, decide_eq_false]
    intro e
    have := congrArg List.length e
    rw [List.length_map, List.length_map] at this
    exact h this
theorem holds (a0 a1 a2 : Int) (a3 : ByteArray) (z4 : List S42) (a5 : ByteArray) (z6 : List S42) (w0 : (Lit.int .u64 a0).wf = true) (w1 : (Lit.int .i64 a1).wf = true) (w2 : (Lit.int .i64 a2).wf = true) (w3 : a3.size ≤ 140737488351232) (hw4 : ∀ x ∈ z4, (Lit.int .u64 x.f0).wf = true) (w5 : a5.size ≤ 140737488351232) (hw6 : ∀ x ∈ z6, (Lit.int .u64 x.f0).wf = true) : ∃ k, wageofficelaw24_MerkleBinding.f k a0 a1 a2 a3 z4 a5 z6 = some true := by
  refine ⟨(100 + 1) + 1, ?_⟩
  have htrue : wageofficelaw24_MerkleBinding.j0 ((100 + 1) + 1) a0 a1 a2 a3 z4 a5 z6 true true = some true := by rw [wageofficelaw24_MerkleBinding.j0, if_pos rfl]
  unfold wageofficelaw24_MerkleBinding.f wageofficelaw24_head.f
  rw [Option.bind_some]
  by_cases h3 : (a3.size : Int) > 60
  · rw [if_pos h3]; exact htrue
  · rw [if_neg h3]
    by_cases h5 : (a5.size : Int) > 60
    · rw [if_pos h5]; exact htrue
    · rw [if_neg h5]
      by_cases h4 : (z4.length : Int) > 20
      · rw [if_pos h4]; exact htrue
      · rw [if_neg h4]
        by_cases h6 : (z6.length : Int) > 20
        · rw [decide_eq_true h6]; exact htrue
        · have o4 : ∀ x ∈ z4, Mer.Okd x.f0 := fun x hx => wf_u64 (hw4 x hx)
          have o6 : ∀ x ∈ z6, Mer.Okd x.f0 := fun x hx => wf_u64 (hw6 x hx)
          have k4 : okP z4 = true := by unfold okP; rw [List.all_eq_true]; exact fun x hx => decide_eq_true (o4 x hx)
          have k6 : okP z6 = true := by unfold okP; rw [List.all_eq_true]; exact fun x hx => decide_eq_true (o6 x hx)
          have r4 : ∀ p ∈ z4.map toP, Mer.Okd p.1 := fun p hp => by obtain ⟨x, hx, rfl⟩ := List.mem_map.1 hp; exact o4 x hx
          have r6 : ∀ p ∈ z6.map toP, Mer.Okd p.1 := fun p hp => by obtain ⟨x, hx, rfl⟩ := List.mem_map.1 hp; exact o6 x hx
          have s3 : small a3 = true := by simpa [small] using w3
          have s5 : small a5 = true := by simpa [small] using w5
          have hc : merkle_Collision.f a1 a2 a3 z4 a5 z6 = some (Mer.collF a1 a2 a3 (z4.map toP) a5 (z6.map toP)) := by
            unfold merkle_Collision.f
            rw [if_pos ⟨⟨s3, k4⟩, s5, k6⟩]
          have hj1 : wageofficelaw24_MerkleBinding.j1 (100 + 1) a0 a1 a2 a3 z4 a5 z6 true (Mer.collF a1 a2 a3 (z4.map toP) a5 (z6.map toP)).2.2 false = some true := by
            rw [wageofficelaw24_MerkleBinding.j1, if_neg (by decide), ver_f a0 a1 a2 w3 k4, Option.bind_some]
            by_cases v1 : Mer.verifyB a0 a1 a2 a3 (z4.map toP) = true
            · rw [if_pos v1, ver_f a0 a1 a2 w5 k6, Option.bind_some]
              by_cases v2 : Mer.verifyB a0 a1 a2 a5 (z6.map toP) = true
              · rw [if_pos v2, if_pos rfl, Mer.texts_binding r4 r6 v1 v2]
                by_cases e : a3 = a5
                · subst e
                  rw [if_pos rfl, same_b z4 z6 (by omega) _ (by omega), Option.bind_some]
                  by_cases e2 : z4.map toP = z6.map toP
                  · rw [decide_eq_true e2, decide_eq_false (by rintro (h | h); exact h rfl; exact h e2)]; rfl
                  · rw [decide_eq_false e2, decide_eq_true (.inr e2)]; rfl
                · rw [if_neg (list_ne e), decide_eq_true (.inl e)]; rfl
              · rw [if_neg v2]
            · rw [if_neg v1]
          rw [decide_eq_false h6, wageofficelaw24_MerkleBinding.j0, if_neg (by decide), hc, Option.bind_some]
          have hs := Mer.coll_spec a1 a2 a3 (z4.map toP) a5 (z6.map toP)
          have hz := fun h => coll_size (s := a1) (i := a2) (r := z4.map toP) (r' := z6.map toP) w3 w5 h
          clear hc
          generalize Mer.collF a1 a2 a3 (z4.map toP) a5 (z6.map toP) = c at *
          obtain ⟨x, y, is⟩ := c
          dsimp only at hj1 hs hz ⊢
          cases is with
          | true =>
            obtain ⟨hne, heq⟩ := hs.1 rfl
            obtain ⟨q1, q2⟩ := hz rfl
            rw [if_neg (by rw [bne_iff_ne.2 (list_ne hne)]; decide), if_pos rfl, sum_f q1, sum_f q2, Option.bind_some, Option.bind_some, heq, bne_self_eq_false]
            exact hj1
          | false =>
            have hnil := hs.2 rfl
            have hx : x = ⟨#[]⟩ := congrArg (·.1) hnil
            have hy : y = ⟨#[]⟩ := congrArg (·.2.1) hnil
            subst hx hy
            rw [if_neg (by rw [bne_self_eq_false]; decide), if_neg (by decide)]
            exact hj1
end Go.Proofs.Ytcikhbamdbphaaa.PureMerkleBinding
