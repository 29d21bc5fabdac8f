/- The law MerkleForms, said of the printed functions. -/
import Derived.Test.YtcikhbamdbphaaaPureMer
import Derived.Test.YtcikhbamdbphaaaPAllx9
set_option linter.unusedVariables false
namespace Go.Proofs.Ytcikhbamdbphaaa.PureMerkleForms
open Go.RowKit Go.Proofs.Ytcikhbamdbphaaa Go.Proofs.Ytcikhbamdbphaaa.PAll Go.Proofs.YtcikhbamdbphaaaW.PrintWords Go.Proofs.YtcikhbamdbphaaaW.PrintLast Go.Proofs.Ytcikhbamdbphaaa.Stub Go.Proofs.Ytcikhbamdbphaaa.PureMer
theorem ver_none {root s i : Int} {leaf : ByteArray} {X : List S42} (hl : leaf.size ≤ 140737488351232) (hX : okP X = true) (h : Mer.texts s i leaf (X.map toP) = none) : merkle_Verify.f root s i leaf X = some false := by
  rw [ver_f root s i hl hX]
  unfold Mer.verifyB
  rw [h]
theorem ver_side {root s i : Int} {leaf leaf' : ByteArray} {X P : List S42} {ts : List ByteArray} (hl : leaf.size ≤ 140737488351232) (hX : okP X = true) (hP : Mer.texts s i leaf' (P.map toP) = some ts) (hne : X.map (·.f1) ≠ P.map (·.f1)) : merkle_Verify.f root s i leaf X = some false := by
  refine ver_none hl hX ?_
  cases h : Mer.texts s i leaf (X.map toP) with
  | none => rfl
  | some l =>
    have := Mer.texts_sides h hP
    rw [List.map_map, List.map_map] at this
    exact absurd this hne
theorem ver_out {root s i : Int} {leaf : ByteArray} {X : List S42} (hl : leaf.size ≤ 140737488351232) (hX : okP X = true) (h : ¬ (1 ≤ s ∧ s ≤ 1024 ∧ 0 ≤ i ∧ i < s)) : merkle_Verify.f root s i leaf X = some false := by
  refine ver_none hl hX ?_
  unfold Mer.texts
  rw [if_neg h]
theorem okP_all {X : List S42} (h : ∀ x ∈ X, 0 ≤ x.f0 ∧ x.f0 ≤ 18446744073709551615) : okP X = true := by unfold okP; rw [List.all_eq_true]; exact fun x hx => decide_eq_true (h x hx)
theorem all_okP {X : List S42} (h : okP X = true) : ∀ x ∈ X, 0 ≤ x.f0 ∧ x.f0 ≤ 18446744073709551615 := by
  unfold okP at h; rw [List.all_eq_true] at h; exact fun x hx => of_decide_eq_true (h x hx)
theorem len_ne {X P : List S42} (h : X.length ≠ P.length) : X.map (·.f1) ≠ P.map (·.f1) := fun e => h (by have := congrArg List.length e; rwa [List.length_map, List.length_map] at this)
theorem set_ne {P : List S42} {j : Nat} (hj : j < P.length) (d : Int) : (P.set j ⟨d, !(P.getD j z42).f1⟩).map (·.f1) ≠ P.map (·.f1) := by
  intro e
  have h : ((P.set j ⟨d, !(P.getD j z42).f1⟩).map (·.f1))[j]? = (P.map (·.f1))[j]? := by rw [e]
  rw [List.getElem?_map, List.getElem?_map, List.getElem?_set_self hj, List.getD_eq_getElem?_getD, List.getElem?_eq_getElem hj] at h
  simp at h
theorem holds (z0 : List ByteArray) (a1 : Int) (a2 : Int) (a3_0 : Int) (a3_1 : Bool) (w1 : (Lit.int .u8 a1).wf = true) (w2 : (Lit.int .u8 a2).wf = true) (w3 : (Lit.int .u64 a3_0).wf = true) : ∃ k, wageofficelaw24_MerkleForms.f k z0 a1 a2 a3_0 a3_1 = some true := by
  obtain ⟨c0, c1⟩ := wf_u8 w1
  obtain ⟨d0, d1⟩ := wf_u8 w2
  have hx := wf_u64 w3
  obtain ⟨y, rfl⟩ : ∃ y : Nat, a1 = y := ⟨a1.toNat, by omega⟩
  obtain ⟨z, rfl⟩ : ∃ y : Nat, a2 = y := ⟨a2.toNat, by omega⟩
  obtain ⟨b, hb, hsm⟩ := small_eq z0 (((z0.length + 2000) + 1) + 1 + 1) (by omega)
  refine ⟨((z0.length + 2000) + 1) + 1 + 1, ?_⟩
  have htrue : wageofficelaw24_MerkleForms.j0 (((z0.length + 2000) + 1) + 1 + 1) z0 (y : Int) (z : Int) true true a3_0 a3_1 = some true := by rw [wageofficelaw24_MerkleForms.j0, if_pos rfl]
  unfold wageofficelaw24_MerkleForms.f wageofficelaw24_head.f
  rw [Option.bind_some, hb, Option.bind_some]
  cases b with
  | false => rw [if_neg (by decide)]; exact htrue
  | true =>
    obtain ⟨h80, hsh⟩ := hsm rfl
    rw [if_pos rfl]
    by_cases h0 : (z0.length : Int) = 0
    · rw [beq_iff_eq.2 h0]; exact htrue
    · have e1 : Int.tmod (wrap64 (y : Int)) (z0.length : Int) = ((y % z0.length : Nat) : Int) := by rw [wrap64_id (by omega) (by omega), tmod_nat]
      have hy : y % z0.length < z0.length := Nat.mod_lt _ (by omega)
      generalize y % z0.length = q at *
      have hpl := (Mer.path_len 10 (z0.map Mer.leaf) q (by rw [List.length_map]; exact hy) (by rw [List.length_map]; omega)).1
      have hokP := okP_path (Mer.leaves_ok z0) q
      obtain ⟨ts, hts, -⟩ := Mer.verify_texts (Mer.accepted z0 q hy (by omega))
      have hleaf : (z0.getD q ByteArray.empty).size ≤ 140737488351232 := by
        have := hsh z0[q] (List.getElem_mem hy)
        rw [List.getD_eq_getElem?_getD, List.getElem?_eq_getElem hy]
        show (z0[q]).size ≤ _
        omega
      rw [beq_eq_false_iff_ne.2 h0, wageofficelaw24_MerkleForms.j0, if_neg (by decide), if_neg h0, e1, root_f hsh, path_f hsh, Option.bind_some, Option.bind_some, pathF_ok hy (by omega), rootF_ok (by omega) (by omega), if_pos rfl]
      have hlen : ((Mer.path (z0.map Mer.leaf) q).map ofP).length ≤ 10 := by rw [List.length_map]; exact hpl
      rw [← toP_ofP (Mer.path (z0.map Mer.leaf) q)] at hts
      dsimp only
      generalize (Mer.path (z0.map Mer.leaf) q).map ofP = P at *
      generalize Mer.top (z0.map Mer.leaf) = root
      have hall := all_okP hokP
      have hxs : okP (([] ++ P) ++ [(⟨a3_0, a3_1⟩ : S42)]) = true := okP_all fun x hx' => by
        rcases List.mem_append.1 hx' with h | h
        · exact hall x (by simpa using h)
        · obtain rfl := List.mem_singleton.1 h
          exact hx
      have v1 : merkle_Verify.f root (z0.length : Int) (q : Int) (z0.getD q ByteArray.empty) (([] ++ P) ++ [(⟨a3_0, a3_1⟩ : S42)]) = some false := ver_side hleaf hxs hts (len_ne (by simp))
      have v2 : merkle_Verify.f root (z0.length : Int) (z0.length : Int) (z0.getD q ByteArray.empty) P = some false := ver_out hleaf hokP (by omega)
      have v3 : merkle_Verify.f root (z0.length : Int) (-1) (z0.getD q ByteArray.empty) P = some false := ver_out hleaf hokP (by omega)
      have v4 : merkle_Verify.f root 0 0 (z0.getD q ByteArray.empty) P = some false := ver_out hleaf hokP (by omega)
      have hft : ¬ false = true := by decide
      rw [decide_eq_false (by omega), wageofficelaw24_MerkleForms.j1, if_neg hft, Option.bind_some, if_pos (by simp; omega), Option.bind_some, Option.bind_some, if_pos (by simp; omega), if_pos (by omega), if_pos (by omega), rdOf_at, v1, Option.bind_some, if_neg hft, v2, Option.bind_some, if_neg hft, v3, Option.bind_some, if_neg hft, v4, Option.bind_some, wageofficelaw24_MerkleForms.j2, if_neg hft]
      by_cases hp0 : (P.length : Int) = 0
      · rw [if_pos hp0]
      · have e2 : Int.tmod (wrap64 (z : Int)) (P.length : Int) = ((z % P.length : Nat) : Int) := by rw [wrap64_id (by omega) (by omega), tmod_nat]
        have hz : z % P.length < P.length := Nat.mod_lt _ (by omega)
        generalize z % P.length = j at *
        have hw : wrap64 ((P.length : Int) - 1) = ((P.length - 1 : Nat) : Int) := by rw [wrap64_id (by omega) (by omega)]; omega
        have hset : okP (P.set j ⟨(P.getD j z42).f0, !(P.getD j z42).f1⟩) = true := okP_all fun x hx' => by
          rcases List.mem_or_eq_of_mem_set hx' with h | rfl
          · exact hall x h
          · rw [List.getD_eq_getElem?_getD, List.getElem?_eq_getElem hz]
            exact hall P[j] (List.getElem_mem hz)
        have htk : okP (P.take (P.length - 1)) = true := okP_all fun x hx' => hall x (List.mem_of_mem_take hx')
        have v5 : merkle_Verify.f root (z0.length : Int) (q : Int) (z0.getD q ByteArray.empty) (P.set j ⟨(P.getD j z42).f0, !(P.getD j z42).f1⟩) = some false := ver_side hleaf hset hts (set_ne hz _)
        have v6 : merkle_Verify.f root (z0.length : Int) (q : Int) (z0.getD q ByteArray.empty) (P.take (P.length - 1)) = some false := ver_side hleaf htk hts (len_ne (by rw [List.length_take]; omega))
        rw [if_neg hp0, Option.bind_some, if_pos (by simp; omega), Option.bind_some, List.nil_append, e2, if_pos (by omega), if_pos (by omega), if_pos rfl, if_pos (by omega), if_pos (by omega), rd_T, Int.toNat_natCast, rdOf_at, v5, Option.bind_some, if_neg hft, hw, if_pos (by omega), if_pos (by omega), Int.toNat_natCast, v6]
        rfl
end Go.Proofs.Ytcikhbamdbphaaa.PureMerkleForms
