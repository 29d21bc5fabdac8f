/- The law MerkleLengths, said of the printed functions. -/
import Derived.Test.YtcikhbamdbphaaaPureMer
import Derived.Test.YtcikhbamdbphaaaPAllx7
namespace Go.Proofs.Ytcikhbamdbphaaa.PureMerkleLengths
open Go.RowKit Go.Proofs.Ytcikhbamdbphaaa Go.Proofs.Ytcikhbamdbphaaa.PAll Go.Proofs.YtcikhbamdbphaaaW.PrintWords Go.Proofs.YtcikhbamdbphaaaW.PrintLast Go.Proofs.Ytcikhbamdbphaaa.Stub Go.Proofs.Ytcikhbamdbphaaa.PureMer
theorem loop (n : Nat) (hn : n ≤ 64) (p : List S42) (hp : ∀ j, n ≤ 2 ^ j → p.length ≤ j ∧ (n = 2 ^ j → p.length = j)) : ∀ (d j k : Nat), j + d = 6 → d < k → (∀ i, i < j → 2 ^ i < n) → wageofficelaw24_MerkleLengths.l0 k true (n : Int) p (j : Int) ((2 ^ j : Nat) : Int) = some true := by
  intro d
  induction d with
  | zero =>
    intro j k hj hk hb
    obtain ⟨k, rfl⟩ := rounds (show 0 < k by omega)
    obtain rfl : j = 6 := by omega
    obtain ⟨h1, h2⟩ := hp 6 (by omega)
    rw [wageofficelaw24_MerkleLengths.l0, if_neg (by omega), if_pos rfl, if_pos (by omega)]
    by_cases he : ((2 ^ 6 : Nat) : Int) = (n : Int)
    · rw [if_pos he, h2 (by omega)]; rfl
    · rw [if_neg he]
  | succ d ih =>
    intro j k hj hk hb
    obtain ⟨k, rfl⟩ := rounds (show 0 < k by omega)
    have hq : 2 ^ j ≤ 64 := Nat.pow_le_pow_right (n := 2) (by decide) (show j ≤ 6 by omega)
    have hq0 := Nat.two_pow_pos j
    rw [wageofficelaw24_MerkleLengths.l0]
    by_cases hlt : ((2 ^ j : Nat) : Int) < (n : Int)
    · have hw : wrap64 (2 * ((2 ^ j : Nat) : Int)) = ((2 ^ (j + 1) : Nat) : Int) := by rw [wrap64_id (by omega) (by omega), Nat.pow_succ]; omega
      have hw2 : wrap64 ((j : Int) + 1) = ((j + 1 : Nat) : Int) := by rw [wrap64_id (by omega) (by omega)]; omega
      rw [if_pos hlt, hw, hw2]
      exact ih (j + 1) k (by omega) (by omega) (fun i hi => by
        by_cases e : i = j
        · subst e; omega
        · exact hb i (by omega))
    · obtain ⟨h1, h2⟩ := hp j (by omega)
      rw [if_neg hlt, if_pos rfl, if_pos (by omega)]
      by_cases he : ((2 ^ j : Nat) : Int) = (n : Int)
      · rw [if_pos he, h2 (by omega)]; simp
      · rw [if_neg he]
theorem holds (a0 a1 : Int) (w0 : (Lit.int .u8 a0).wf = true) (w1 : (Lit.int .u8 a1).wf = true) : ∃ k, wageofficelaw24_MerkleLengths.f k a0 a1 = some true := by
  obtain ⟨b0, b1⟩ := wf_u8 w0
  obtain ⟨c0, c1⟩ := wf_u8 w1
  obtain ⟨x, rfl⟩ : ∃ x : Nat, a0 = x := ⟨a0.toNat, by omega⟩
  obtain ⟨y, rfl⟩ : ∃ y : Nat, a1 = y := ⟨a1.toNat, by omega⟩
  obtain ⟨n, hn⟩ : ∃ n, x % 64 + 1 = n := ⟨_, rfl⟩
  have e1 : wrap64 (Int.tmod (wrap64 (x : Int)) 64 + 1) = (n : Int) := by
    rw [wrap64_id (x := (x : Int)) (by omega) (by omega), show (64 : Int) = ((64 : Nat) : Int) from rfl, tmod_nat, wrap64_id (by omega) (by omega)]; omega
  have e2 : Int.tmod (wrap64 (y : Int)) (n : Int) = ((y % n : Nat) : Int) := by rw [wrap64_id (by omega) (by omega), tmod_nat]
  have hy : y % n < n := Nat.mod_lt _ (by omega)
  have hsh : Sh (List.replicate n (⟨#[]⟩ : ByteArray)) := fun s hs => by rw [(List.mem_replicate.1 hs).2]; decide
  have hp : ∀ j, n ≤ 2 ^ j → ((Mer.path ((List.replicate n (⟨#[]⟩ : ByteArray)).map Mer.leaf) (y % n)).map ofP).length ≤ j ∧ (n = 2 ^ j → ((Mer.path ((List.replicate n (⟨#[]⟩ : ByteArray)).map Mer.leaf) (y % n)).map ofP).length = j) := fun j hj => by
    have hl : ((List.replicate n (⟨#[]⟩ : ByteArray)).map Mer.leaf).length = n := by simp
    obtain ⟨h1, h2⟩ := Mer.path_len j ((List.replicate n (⟨#[]⟩ : ByteArray)).map Mer.leaf) (y % n) (by rw [hl]; exact hy) (by rw [hl]; exact hj)
    rw [List.length_map]
    exact ⟨h1, fun e => h2 (by rw [hl]; exact e)⟩
  refine ⟨20, ?_⟩
  unfold wageofficelaw24_MerkleLengths.f wageofficelaw24_head.f
  rw [Option.bind_some, e1, if_pos (by omega), if_pos (by omega), if_neg (by omega), Int.toNat_natCast, e2, path_f hsh, Option.bind_some, pathF_ok (by rw [List.length_replicate]; exact hy) (by rw [List.length_replicate]; omega), if_pos rfl]
  have h6 := (hp 6 (by omega)).1
  dsimp only
  rw [decide_eq_false (show ¬ ((((Mer.path ((List.replicate n (⟨#[]⟩ : ByteArray)).map Mer.leaf) (y % n)).map ofP).length : Int) > 10) by omega), wageofficelaw24_MerkleLengths.j0, if_neg (by simp)]
  exact loop n (by omega) _ hp 6 0 19 (by omega) (by omega) (fun i hi => by omega)
end Go.Proofs.Ytcikhbamdbphaaa.PureMerkleLengths
