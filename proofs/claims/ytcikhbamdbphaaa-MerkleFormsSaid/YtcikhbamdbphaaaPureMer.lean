/- What the laws of package merkle are proved from: the contracts' functions, said plainly. -/
import Derived.Test.YtcikhbamdbphaaaStubHead
import Derived.Test.YtcikhbamdbphaaaMerM
namespace Go.Proofs.Ytcikhbamdbphaaa.PureMer
open Go.RowKit Go.Proofs.Ytcikhbamdbphaaa Go.Proofs.Ytcikhbamdbphaaa.PAll Go.Proofs.YtcikhbamdbphaaaW.PrintWords Go.Proofs.YtcikhbamdbphaaaW.PrintLast Go.Proofs.Ytcikhbamdbphaaa.Stub
theorem wf_u8 {a : Int} (h : (Lit.int .u8 a).wf = true) : 0 ≤ a ∧ a ≤ 255 := by
  have h : IntKind.u8.min ≤ a ∧ a ≤ IntKind.u8.max := by simpa [Lit.wf] using h
  have e1 : IntKind.u8.min = 0 := rfl
  have e2 : IntKind.u8.max = 255 := rfl
  omega
theorem wf_u16 {a : Int} (h : (Lit.int .u16 a).wf = true) : 0 ≤ a ∧ a ≤ 65535 := by
  have h : IntKind.u16.min ≤ a ∧ a ≤ IntKind.u16.max := by simpa [Lit.wf] using h
  have e1 : IntKind.u16.min = 0 := rfl
  have e2 : IntKind.u16.max = 65535 := rfl
  omega
theorem wf_u64 {a : Int} (h : (Lit.int .u64 a).wf = true) : 0 ≤ a ∧ a ≤ 18446744073709551615 := by
  have h : IntKind.u64.min ≤ a ∧ a ≤ IntKind.u64.max := by simpa [Lit.wf] using h
  have e1 : IntKind.u64.min = 0 := rfl
  have e2 : IntKind.u64.max = 18446744073709551615 := rfl
  omega
theorem wrap64_id {x : Int} (h0 : -9223372036854775808 ≤ x) (h1 : x ≤ 9223372036854775807) : wrap64 x = x := by unfold wrap64; omega
theorem rounds {k : Nat} (h : 0 < k) : ∃ m, k = m + 1 := ⟨k - 1, by omega⟩
theorem rdOf_at {α : Type} (d : α) (xs : List α) (i : Nat) : rdOf d xs (i : Int) = xs.getD i d := rfl
def Sh (l : List ByteArray) : Prop := ∀ s ∈ l, s.size ≤ 60
theorem small_loop (l : List ByteArray) (hl : l.length ≤ 1000) : ∀ (d k i : Nat), i + d = l.length → d < k → ∃ b, wageofficelaw24_small.l0 k l (i : Int) = some b ∧ (b = true → ∀ j, i ≤ j → j < l.length → (l.getD j ByteArray.empty).size ≤ 60) := by
  intro d
  induction d with
  | zero =>
    intro k i hi hk
    obtain ⟨k, rfl⟩ := rounds (show 0 < k by omega)
    refine ⟨true, ?_, fun _ j h1 h2 => by omega⟩
    simp only [wageofficelaw24_small.l0]
    rw [if_neg (by omega)]
  | succ d ih =>
    intro k i hi hk
    obtain ⟨k, rfl⟩ := rounds (show 0 < k by omega)
    simp only [wageofficelaw24_small.l0]
    rw [if_pos (by omega), if_pos (by omega), rdOf_at, wrap64_id (by omega) (by omega)]
    by_cases h : ((l.getD i ByteArray.empty).size : Int) > 60
    · exact ⟨false, by rw [if_pos h], fun h => by cases h⟩
    · obtain ⟨b, h1, h2⟩ := ih k (i + 1) (by omega) (by omega)
      refine ⟨b, by rw [if_neg h]; exact_mod_cast h1, fun hb j hj1 hj2 => ?_⟩
      by_cases e : j = i
      · subst e; omega
      · exact h2 hb j (by omega) hj2
theorem small_eq (l : List ByteArray) (k : Nat) (hk : l.length < k) : ∃ b, wageofficelaw24_small.f k l = some b ∧ (b = true → l.length ≤ 80 ∧ Sh l) := by
  unfold wageofficelaw24_small.f
  by_cases h : (l.length : Int) > 80
  · exact ⟨false, by rw [if_pos h], fun h => by cases h⟩
  · rw [if_neg h]
    obtain ⟨b, h1, h2⟩ := small_loop l (by omega) l.length k 0 (by omega) hk
    refine ⟨b, h1, fun hb => ⟨by omega, fun s hs => ?_⟩⟩
    obtain ⟨j, hj, rfl⟩ := List.mem_iff_getElem.1 hs
    have := h2 hb j (by omega) hj
    rwa [List.getD_eq_getElem?_getD, List.getElem?_eq_getElem hj] at this
theorem all_small {l : List ByteArray} (h : Sh l) : l.all small = true := by
  rw [List.all_eq_true]
  intro s hs
  have := h s hs
  simp [small]; omega
theorem root_f {l : List ByteArray} (h : Sh l) : merkle_Root.f l = some (Mer.rootF l) := by unfold merkle_Root.f; rw [if_pos (all_small h)]
theorem path_f {l : List ByteArray} (h : Sh l) (i : Int) : merkle_Path.f l i = some ((Mer.pathF l i).1.map ofP, (Mer.pathF l i).2) := by unfold merkle_Path.f; rw [if_pos (all_small h)]
theorem rootF_ok {l : List ByteArray} (h0 : 0 < l.length) (h1 : l.length ≤ 1024) : Mer.rootF l = (Mer.top (l.map Mer.leaf), 0) := by unfold Mer.rootF; rw [if_neg (by omega), if_neg (by omega)]
theorem pathF_ok {l : List ByteArray} {i : Nat} (h0 : i < l.length) (h1 : l.length ≤ 1024) : Mer.pathF l (i : Int) = (Mer.path (l.map Mer.leaf) i, 0) := by unfold Mer.pathF; rw [if_neg (by omega), if_neg (by omega), if_neg (by omega), Int.toNat_natCast]
theorem toP_ofP (p : List (Int × Bool)) : (p.map ofP).map toP = p := by rw [List.map_map]; exact List.map_id' _
theorem okP_path {L : List Int} (h : Mer.OkR L) (q : Nat) : okP ((Mer.path L q).map ofP) = true := by
  unfold okP
  rw [List.all_eq_true]
  intro x hx
  obtain ⟨p, hp, rfl⟩ := List.mem_map.1 hx
  exact decide_eq_true (Mer.path_ok _ _ _ h p hp)
theorem ver_f (root s i : Int) {leaf : ByteArray} (h : leaf.size ≤ 140737488351232) {p : List S42} (hp : okP p = true) : merkle_Verify.f root s i leaf p = some (Mer.verifyB root s i leaf (p.map toP)) := by
  unfold merkle_Verify.f
  rw [if_pos ⟨by simpa [small] using h, hp⟩]
theorem ver_path {l : List ByteArray} (h : Sh l) {i : Nat} (h0 : i < l.length) (h1 : l.length ≤ 1024) : merkle_Verify.f (Mer.top (l.map Mer.leaf)) (l.length : Int) (i : Int) (l.getD i ByteArray.empty) ((Mer.path (l.map Mer.leaf) i).map ofP) = some true := by
  have hs := h l[i] (List.getElem_mem h0)
  rw [ver_f _ _ _ (by rw [List.getD_eq_getElem?_getD, List.getElem?_eq_getElem h0]; simp; omega) (okP_path (Mer.leaves_ok l) i), toP_ofP, Mer.accepted l i h0 h1]
theorem tmod_nat (a m : Nat) : Int.tmod (a : Int) (m : Int) = ((a % m : Nat) : Int) := by
  rw [Int.tmod_eq_emod_of_nonneg (by omega)]; omega
theorem rd_T (l : List S42) (i : Nat) : rd_T42 l (i : Int) = l.getD i z42 := rfl
/-- Same's answer. -/
def sameB : List S42 → List S42 → Bool
  | x :: l, y :: m => (x.f0 == y.f0 && x.f1 == y.f1) && sameB l m
  | [], [] => true
  | _, _ => false
theorem same_loop (l m : List S42) (hl : l.length = m.length) (hm : l.length ≤ 100000) : ∀ (d k i : Nat), i + d = l.length → d < k → wageofficeref24_Same.l0 k l m (i : Int) = some (sameB (l.drop i) (m.drop i)) := by
  intro d
  induction d with
  | zero =>
    intro k i hi hk
    obtain ⟨k, rfl⟩ := rounds (show 0 < k by omega)
    rw [wageofficeref24_Same.l0, if_neg (by omega), List.drop_of_length_le (by omega), List.drop_of_length_le (by omega)]; rfl
  | succ d ih =>
    intro k i hi hk
    obtain ⟨k, rfl⟩ := rounds (show 0 < k by omega)
    have h1 : i < l.length := by omega
    have h2 : i < m.length := by omega
    rw [wageofficeref24_Same.l0, if_pos (by omega), if_pos (by omega), if_pos (by omega), rd_T, rd_T, wrap64_id (by omega) (by omega), List.drop_eq_getElem_cons h1, List.drop_eq_getElem_cons h2]
    rw [List.getD_eq_getElem?_getD, List.getD_eq_getElem?_getD, List.getElem?_eq_getElem h1, List.getElem?_eq_getElem h2, Option.getD_some, Option.getD_some, sameB]
    have := ih k (i + 1) (by omega) (by omega)
    by_cases e0 : l[i].f0 = m[i].f0
    · by_cases e1 : l[i].f1 = m[i].f1
      · rw [if_neg (by simp [e0, e1])]
        rw [e0, e1, beq_self_eq_true, beq_self_eq_true, Bool.and_self, Bool.true_and]
        exact_mod_cast this
      · rw [if_pos (by simp [e1]), beq_false_of_ne e1, Bool.and_false, Bool.false_and]
    · rw [if_pos (by simp [e0]), beq_false_of_ne e0, Bool.false_and, Bool.false_and]
theorem same_eq (l m : List S42) (hm : l.length ≤ 100000) (k : Nat) (hk : l.length < k) : wageofficeref24_Same.f k l m = some (if l.length = m.length then sameB l m else false) := by
  unfold wageofficeref24_Same.f
  by_cases h : l.length = m.length
  · rw [if_pos (by omega), if_pos h]
    have := same_loop l m h hm l.length k 0 (by omega) hk
    exact this
  · rw [if_neg (by omega), if_neg h]
theorem sameB_iff : ∀ l m : List S42, sameB l m = true ↔ l.map toP = m.map toP
  | [], [] => by simp [sameB]
  | [], _ :: _ => by simp [sameB]
  | _ :: _, [] => by simp [sameB]
  | x :: l, y :: m => by
    have := sameB_iff l m
    simp [sameB, this, toP]
theorem same_self (l : List S42) (k : Nat) (h : l.length < 100 ∧ l.length < k) : wageofficeref24_Same.f k l l = some true := by
  rw [same_eq l l (by omega) k h.2, if_pos rfl, (sameB_iff l l).2 rfl]
end Go.Proofs.Ytcikhbamdbphaaa.PureMer
