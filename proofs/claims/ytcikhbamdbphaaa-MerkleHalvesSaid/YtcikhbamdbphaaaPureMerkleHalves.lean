/- The law MerkleHalves, said of the printed functions. -/
import Derived.Test.YtcikhbamdbphaaaPureMer
import Derived.Test.YtcikhbamdbphaaaPAllx6
namespace Go.Proofs.Ytcikhbamdbphaaa.PureMerkleHalves
open Go.RowKit Go.Proofs.Ytcikhbamdbphaaa Go.Proofs.Ytcikhbamdbphaaa.PAll Go.Proofs.YtcikhbamdbphaaaW.PrintWords Go.Proofs.YtcikhbamdbphaaaW.PrintLast Go.Proofs.Ytcikhbamdbphaaa.Stub Go.Proofs.Ytcikhbamdbphaaa.PureMer
theorem pair_f {a b : Int} (ha : 0 ≤ a ∧ a ≤ 18446744073709551615) (hb : 0 ≤ b ∧ b ≤ 18446744073709551615) : digest_Pair.f a b = some (Mer.pair a b) := by
  unfold digest_Pair.f
  rw [if_pos ⟨decide_eq_true ha, decide_eq_true hb⟩]; rfl
theorem top_ok {L : List Int} (h : Mer.OkR L) (h0 : 0 < L.length) : 0 ≤ Mer.top L ∧ Mer.top L ≤ 18446744073709551615 := by
  have h1 := Mer.rowN_pos L h0 (Mer.hgt L)
  have h2 := Mer.rowN_ok h (Mer.hgt L) (Mer.rowN L (Mer.hgt L))[0] (List.getElem_mem h1)
  unfold Mer.top
  rw [List.getD_eq_getElem?_getD, List.getElem?_eq_getElem h1]
  exact h2
theorem last (z : List ByteArray) (j k : Nat) (hk : z.length + 1 < k) (hj : j ≤ 5) : ∃ b, wageofficelaw24_small.f k z = some b ∧ (if b = true then (if (z.length : Int) ≤ ((2 ^ j : Nat) : Int) then wageofficelaw24_MerkleHalves.j1 k z true ((2 ^ j : Nat) : Int) true else wageofficelaw24_MerkleHalves.j1 k z true ((2 ^ j : Nat) : Int) (decide ((z.length : Int) > wrap64 (2 * ((2 ^ j : Nat) : Int))))) else wageofficelaw24_MerkleHalves.j1 k z true ((2 ^ j : Nat) : Int) true) = some true := by
  obtain ⟨b, hb, hsm⟩ := small_eq z k (by omega)
  refine ⟨b, hb, ?_⟩
  obtain ⟨k, rfl⟩ := rounds (show 0 < k by omega)
  have htrue : wageofficelaw24_MerkleHalves.j1 (k + 1) z true ((2 ^ j : Nat) : Int) true = some true := by rw [wageofficelaw24_MerkleHalves.j1, if_pos rfl]
  have hp : 2 ^ j ≤ 32 := Nat.pow_le_pow_right (n := 2) (by decide) hj
  have hp0 := Nat.two_pow_pos j
  cases b with
  | false => rw [if_neg (by simp)]; exact htrue
  | true =>
    obtain ⟨h80, hsh⟩ := hsm rfl
    rw [if_pos rfl]
    by_cases h1 : (z.length : Int) ≤ ((2 ^ j : Nat) : Int)
    · rw [if_pos h1]; exact htrue
    · rw [if_neg h1]
      have hw : wrap64 (2 * ((2 ^ j : Nat) : Int)) = ((2 * 2 ^ j : Nat) : Int) := by rw [wrap64_id (by omega) (by omega)]; omega
      rw [hw]
      by_cases h2 : (z.length : Int) > ((2 * 2 ^ j : Nat) : Int)
      · rw [decide_eq_true h2]; exact htrue
      · rw [decide_eq_false h2, wageofficelaw24_MerkleHalves.j1, if_neg (by simp), if_pos (by omega), if_pos (by omega), Int.toNat_natCast]
        have s1 : Sh (z.take (2 ^ j)) := fun s hs => hsh s (List.mem_of_mem_take hs)
        have s2 : Sh (z.drop (2 ^ j)) := fun s hs => hsh s (List.mem_of_mem_drop hs)
        have l1 : (z.take (2 ^ j)).length = 2 ^ j := by rw [List.length_take]; omega
        have l2 : (z.drop (2 ^ j)).length = z.length - 2 ^ j := by rw [List.length_drop]
        rw [root_f s1, root_f s2, root_f hsh, Option.bind_some, Option.bind_some, Option.bind_some, if_pos rfl, rootF_ok (by omega) (by omega), rootF_ok (by omega) (by omega), rootF_ok (by omega) (by omega), if_pos rfl, if_pos rfl, if_pos rfl]
        have hh := Mer.halves (l := (z.take (2 ^ j)).map Mer.leaf) (m := (z.drop (2 ^ j)).map Mer.leaf) (j := j) (by rw [List.length_map]; exact l1) (by rw [List.length_map]; omega) (by rw [List.length_map]; omega)
        rw [← List.map_append, List.take_append_drop] at hh
        rw [pair_f (top_ok (Mer.leaves_ok _) (by rw [List.length_map]; omega)) (top_ok (Mer.leaves_ok _) (by rw [List.length_map]; omega)), Option.bind_some]
        show some (Mer.top (z.map Mer.leaf) == Mer.pair _ _) = _
        rw [hh, beq_self_eq_true]
theorem loop (z : List ByteArray) (a : Int) (m : Nat) (hm : m ≤ 5) (ha : Int.tmod (wrap64 a) 6 = (m : Int)) : ∀ (d j k : Nat), j + d = m → z.length + 3 + d < k → wageofficelaw24_MerkleHalves.l0 k z a true ((2 ^ j : Nat) : Int) (j : Int) = some true := by
  intro d
  induction d with
  | zero =>
    intro j k hj hk
    obtain ⟨k, rfl⟩ := rounds (show 0 < k by omega)
    obtain ⟨b, h1, h2⟩ := last z j k (by omega) (by omega)
    rw [wageofficelaw24_MerkleHalves.l0, ha, if_neg (by omega), h1, Option.bind_some]
    exact h2
  | succ d ih =>
    intro j k hj hk
    obtain ⟨k, rfl⟩ := rounds (show 0 < k by omega)
    have hp0 := Nat.two_pow_pos j
    have hp : 2 ^ j ≤ 32 := Nat.pow_le_pow_right (n := 2) (by decide) (show j ≤ 5 by omega)
    have hw : wrap64 (2 * ((2 ^ j : Nat) : Int)) = ((2 ^ (j + 1) : Nat) : Int) := by rw [wrap64_id (by omega) (by omega), Nat.pow_succ]; omega
    have hw2 : wrap64 ((j : Int) + 1) = ((j + 1 : Nat) : Int) := by rw [wrap64_id (by omega) (by omega)]; omega
    rw [wageofficelaw24_MerkleHalves.l0, ha, if_pos (by omega), hw, hw2]
    exact ih (j + 1) k (by omega) (by omega)
theorem holds (z0 : List ByteArray) (a1 : Int) (w1 : (Lit.int .u8 a1).wf = true) : ∃ k, wageofficelaw24_MerkleHalves.f k z0 a1 = some true := by
  obtain ⟨c0, c1⟩ := wf_u8 w1
  obtain ⟨y, rfl⟩ : ∃ y : Nat, a1 = y := ⟨a1.toNat, by omega⟩
  have ha : Int.tmod (wrap64 (y : Int)) 6 = ((y % 6 : Nat) : Int) := by rw [wrap64_id (by omega) (by omega), show (6 : Int) = ((6 : Nat) : Int) from rfl, tmod_nat]
  refine ⟨z0.length + 20, ?_⟩
  unfold wageofficelaw24_MerkleHalves.f wageofficelaw24_head.f
  rw [Option.bind_some]
  exact loop z0 y (y % 6) (by omega) ha (y % 6) 0 _ (by omega) (by omega)
end Go.Proofs.Ytcikhbamdbphaaa.PureMerkleHalves
