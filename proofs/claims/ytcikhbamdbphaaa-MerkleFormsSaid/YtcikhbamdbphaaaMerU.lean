/- merkle.collect over merkle.texts walked. -/
import Derived.Test.YtcikhbamdbphaaaMerT
set_option linter.unusedSimpArgs false
set_option linter.unusedVariables false
namespace Go.Proofs.Ytcikhbamdbphaaa.MerU
open Go.RowKit Go.Shelf Go.Proofs.Ytcikhbamdbphaaa.MerA Go.Proofs.Ytcikhbamdbphaaa.Mer Go.Proofs.Ytcikhbamdbphaaa.MerC Go.Proofs.Ytcikhbamdbphaaa.MerT
attribute [local go_sem] Oper.semAt_some
def StI (B : Nat) (W : World) (s i : Int) (leaf : ByteArray) (v : Value) : Prop := Boxed W B 3 (.int .i64 s) ∧ Boxed W (B + 1) 3 (.int .i64 i) ∧ Boxed W (B + 2) 9 (.string leaf) ∧ Boxed W (B + 3) 25 v
set_option maxHeartbeats 4000000 in
theorem texts1_bad (l B n : Nat) (hn : 5 ≤ n) (w : World) (J : List ByteArray → World → Prop) (JX : World → Prop) (h0 : J [] w)
    (hY0 : ∀ pre W, J pre W → YieldAt Fence.wide (n - 1) Try.prog l #[.string ⟨#[]⟩, .bool false] W fun e W' => e = .returned (.bool false) ∧ JX W')
    (s i : Int) (hbad : ¬ (1 ≤ s ∧ s ≤ 1024 ∧ 0 ≤ i ∧ i < s)) (leaf : ByteArray) (v : Value) (hst : StI B w s i leaf v) :
    CallsIn Fence.wide n Try.prog 41 #[.func (.yield l) #[] #[], .pointer (some ⟨B, 0, none⟩), .pointer (some ⟨B + 1, 0, none⟩), .pointer (some ⟨B + 2, 0, none⟩), .pointer (some ⟨B + 3, 0, none⟩)] w
      fun e w' => (∃ v, e = .returned v) ∧ JX w' := by
  obtain ⟨b1, b2, b3, b4⟩ := hst
  have c1 := b1.cell; have c2 := b2.cell
  obtain ⟨fn, tmps, assign, body, hy, hR⟩ := hY0 _ _ h0
  refine callsIn_of_wp Try.func41 rfl trivial ?_ rfl
  simp only [Try.ntmps41, List.size_toArray, List.length_cons, List.length_nil, Nat.reduceAdd, Nat.reduceSub, Array.replicate_succ, Array.replicate_zero, List.push_toArray, List.append_toArray, List.nil_append, List.cons_append]
  by_cases g1 : s < 1
  · gi_wp2
    refine ⟨fun _ => by omega, hR.mono ?_⟩
    rintro e W6 ⟨rfl, hJ6⟩
    gi_wp2
    refine bodyPost_ret (results_none rfl _ _ _) rfl ?_
    exact ⟨⟨_, rfl⟩, hJ6⟩
  · by_cases g2 : s > 1024
    · gi_wp2
      refine ⟨fun _ => by omega, hR.mono ?_⟩
      rintro e W6 ⟨rfl, hJ6⟩
      gi_wp2
      refine bodyPost_ret (results_none rfl _ _ _) rfl ?_
      exact ⟨⟨_, rfl⟩, hJ6⟩
    · by_cases g3 : i < 0
      · gi_wp2
        refine ⟨fun _ => by omega, hR.mono ?_⟩
        rintro e W6 ⟨rfl, hJ6⟩
        gi_wp2
        refine bodyPost_ret (results_none rfl _ _ _) rfl ?_
        exact ⟨⟨_, rfl⟩, hJ6⟩
      · have g4 : i ≥ s := by omega
        gi_wp2
        refine ⟨fun _ => by omega, hR.mono ?_⟩
        rintro e W6 ⟨rfl, hJ6⟩
        gi_wp2
        refine bodyPost_ret (results_none rfl _ _ _) rfl ?_
        exact ⟨⟨_, rfl⟩, hJ6⟩
theorem texts1_all (l B n1 n : Nat) (hn : 5 ≤ n) (w : World) (hBn : B + 4 ≤ n1) (hnw : n1 ≤ w.heap.size) (J : List ByteArray → World → Prop) (JX : World → Prop)
    (hJ : ∀ pre W W', J pre W → Below B W W' → (∀ k, n1 ≤ k → k < W.heap.size → W'.heap[k]? = W.heap[k]?) → J pre W') (h0 : J [] w)
    (hY1 : ∀ pre text W, J pre W → pre.length ≤ 1024 → YieldAt Fence.wide (n - 1) Try.prog l #[.string text, .bool true] W fun e W' => e = .returned (.bool true) ∧ J (pre ++ [text]) W' ∧ Below n1 W W')
    (hY0 : ∀ pre W, J pre W → YieldAt Fence.wide (n - 1) Try.prog l #[.string ⟨#[]⟩, .bool false] W fun e W' => e = .returned (.bool false) ∧ JX W')
    (s i : Int) (leaf : ByteArray) (hlf : leaf.size ≤ 140737488351232) (v : Value) (hst : StI B w s i leaf v) (r : List (Int × Bool)) (hp : PathAt B w v r) (hok : ∀ p ∈ r, 0 ≤ p.1 ∧ p.1 ≤ 18446744073709551615) :
    CallsIn Fence.wide n Try.prog 41 #[.func (.yield l) #[] #[], .pointer (some ⟨B, 0, none⟩), .pointer (some ⟨B + 1, 0, none⟩), .pointer (some ⟨B + 2, 0, none⟩), .pointer (some ⟨B + 3, 0, none⟩)] w
      fun e w' => (∃ v, e = .returned v) ∧ ((∃ ts, texts s i leaf r = some ts ∧ J ts w') ∨ (texts s i leaf r = none ∧ JX w')) := by
  by_cases hg : 1 ≤ s ∧ s ≤ 1024 ∧ 0 ≤ i ∧ i < s
  · have hs : ((s.toNat : Nat) : Int) = s := by omega
    have hi : ((i.toNat : Nat) : Int) = i := by omega
    unfold texts
    rw [if_pos hg]
    exact texts1_any l B n1 n hn w hBn hnw J JX hJ h0 hY1 hY0 s.toNat i.toNat (by omega) (by omega) (by omega) leaf hlf v (by unfold St; rw [hs, hi]; exact hst) r hp hok
  · refine (texts1_bad l B n hn w J JX h0 hY0 s i hg leaf v hst).mono ?_
    rintro e w' ⟨h1, h2⟩
    exact ⟨h1, .inr ⟨by unfold texts; rw [if_neg hg], h2⟩⟩
end Go.Proofs.Ytcikhbamdbphaaa.MerU
