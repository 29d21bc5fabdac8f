/- RangeproofLengths, plain: a valid proof with a bit proof more or less is not valid for the same number of bits; its first bit proofs are a valid proof for the product of their commitments. -/
import Derived.Test.YtnlgnmlobklobaaDoorRpX
import Derived.Test.YtnlgnmlobklobaaDoorPAllx16
set_option linter.unusedVariables false
set_option linter.unusedSimpArgs false
namespace Go.Proofs.YtnlgnmlobklobaaDoor.PureRangeproofLengths
open Go.RowKit Go.Proofs.YtnlgnmlobklobaaDoor Go.Proofs.YtnlgnmlobklobaaDoor.PAll Go.Proofs.YtnlgnmlobklobaaDoorW.PrintWords Go.Proofs.YtnlgnmlobklobaaDoorW.PrintMore
open Go.Proofs.YtnlgnmlobklobaaDoor.Stub Go.Proofs.YtnlgnmlobklobaaDoor.Com Go.Proofs.YtnlgnmlobklobaaDoor.Hash Go.Proofs.YtnlgnmlobklobaaDoor.RfL Go.Proofs.YtnlgnmlobklobaaDoor.Grp Go.Proofs.YtnlgnmlobklobaaDoor.RpP
theorem bits_raw (a : Int) (h : 0 ≤ a ∧ a ≤ 255) : wrap64 ((Int.tmod (wrap64 a) 28) + 1) = ((a % 28 + 1).toNat : Int) ∧ 1 ≤ (a % 28 + 1).toNat ∧ (a % 28 + 1).toNat ≤ 28 := by
  rw [wrap64_id (x := a) (by omega) (by omega), Int.tmod_eq_emod_of_nonneg h.1, wrap64_id (by omega) (by omega)]
  omega
theorem mod_raw (a m : Int) (h : 0 ≤ a ∧ a ≤ 4294967295) : Int.tmod (wrap64 a) m = a % m := by
  rw [wrap64_id (by omega) (by omega), Int.tmod_eq_emod_of_nonneg h.1]
theorem prodF_get : ∀ (l : List S) (i : Nat) (acc : Int) (h : l ≠ []), prodF l i acc = prodF l.tail (i + 1) (mulI acc (pwI (l.head h).f0 ((2 ^ i : Nat) : Int)))
  | x :: l, i, acc, h => rfl
/-- The last step: the product is there. -/
theorem end_true (l : List S) (n m : Nat) (c : Int) (hn : l.length = n) (h1 : 1 ≤ n) (h28 : n ≤ 28) (hm : 1 ≤ m ∧ m ≤ n) (hv : ∀ x ∈ l, validB x = true) (k : Nat) (hk : 100 ≤ k) :
    wageofficelaw27_RangeproofLengths.l0 (k + 1) true (n : Int) l c (m : Int) (prodF (l.take m) 0 1) (m : Int) = some true := by
  have e1 : verB (prodF (l.take m) 0 1) (m : Int) (l.take m) = true := by
    unfold verB
    rw [List.length_take, Nat.min_eq_left (by omega), decide_eq_true (by omega), List.all_eq_true.2 (fun x hx => hv x (List.mem_of_mem_take hx))]
    simp
  have e2 : ∀ x : S, verB c (n : Int) (l ++ [x]) = false := fun x => by
    unfold verB
    rw [decide_eq_false (by simp; omega)]
    rfl
  have e3 : verB c (n : Int) (l.take (n - 1)) = false := by
    unfold verB
    rw [decide_eq_false (by simp; omega)]
    rfl
  have hx0 : rd_T25 l 0 = l[0] := rd_get l 0 (by omega)
  rw [wageofficelaw27_RangeproofLengths.l0, if_neg (by omega), Option.bind_some, if_pos (by simp; omega), Option.bind_some, if_pos (by omega), if_pos (by simp; omega), if_pos rfl, if_pos (by omega), if_pos (by omega), Int.toNat_natCast,
    Verify_eq _ _ _ (by simp; omega) k hk, e1, Option.bind_some, if_pos rfl, List.nil_append, Verify_eq _ _ _ (by simp; omega) k hk, e2, Option.bind_some, if_neg (by decide), wrap64_id (x := (n : Int) - 1) (by omega) (by omega), if_pos (by omega), if_pos (by omega),
    show ((n : Int) - 1).toNat = n - 1 by omega, Verify_eq _ _ _ (by simp; omega) k hk, e3, Option.bind_some]
  rfl
theorem loop (l : List S) (n m : Nat) (c : Int) (hn : l.length = n) (h1 : 1 ≤ n) (h28 : n ≤ 28) (hm : 1 ≤ m ∧ m ≤ n) (hv : ∀ x ∈ l, validB x = true) : ∀ (d j k : Nat), j + d = m → d + 101 < k →
    wageofficelaw27_RangeproofLengths.l0 k true (n : Int) l c (m : Int) (prodF (l.take j) 0 1) (j : Int) = some true := by
  intro d
  induction d with
  | zero =>
    intro j k hj hk
    obtain ⟨k, rfl⟩ := rounds (show 0 < k by omega)
    obtain rfl : j = m := by omega
    exact end_true l n j c hn h1 h28 hm hv k (by omega)
  | succ d ih =>
    intro j k hj hk
    obtain ⟨k, rfl⟩ := rounds (show 0 < k by omega)
    have hlt : j < l.length := by omega
    have hx := hv _ (List.getElem_mem hlt)
    unfold validB at hx
    rw [Bool.and_eq_true] at hx
    have he := elB_range (right_parts hx.1).1
    have he : 0 ≤ l[j].f0 ∧ l[j].f0 < 2147483579 := he
    have hto := to_eq l[j].f0 he j (by omega)
    have hpow : commitment_Power.f l[j].f0 (shl .i64 1 (j : Int)) = some (pwI l[j].f0 ((2 ^ j : Nat) : Int)) := by
      unfold rangeproof_element_to.f at hto
      cases hq : commitment_Power.f l[j].f0 (shl .i64 1 (j : Int)) with
      | none => rw [hq] at hto; cases hto
      | some z => rw [hq] at hto; exact hto
    have hpr := prodF_range (l.take j) 0 1 (by decide)
    rw [wageofficelaw27_RangeproofLengths.l0, if_pos (by omega), if_pos (by omega), if_pos (by omega), rd_get _ j hlt, hpow, Option.bind_some, times_raw _ _ hpr (pwI_range _ _), wrap64_id (x := (j : Int) + 1) (by omega) (by omega)]
    have := ih (j + 1) k (by omega) (by omega)
    rw [List.take_succ_eq_append_getElem hlt, prodF_snoc, List.length_take, Nat.min_eq_left (by omega), Nat.zero_add] at this
    exact this
theorem holds (a0 : Int) (a1 : Int) (a2 : Int) (a3 : ByteArray) (a4 : Int) (w0 : (Lit.int .u32 a0).wf = true) (w1 : (Lit.int .u32 a1).wf = true) (w2 : (Lit.int .u8 a2).wf = true) (w3 : a3.size ≤ 140737488351232) (w4 : (Lit.int .u8 a4).wf = true) :
    ∃ k, wageofficelaw27_RangeproofLengths.f k a0 a1 a2 a3 a4 = some true := by
  have v0 := wf_u32 w0
  have v1 := wf_u32 w1
  have v2 := wf_u8 w2
  have v4 := wf_u8 w4
  refine ⟨1000, ?_⟩
  unfold wageofficelaw27_RangeproofLengths.f
  rw [head_eq 1000 (by decide), Option.bind_some]
  by_cases hs : (a3.size : Int) > 60
  · rw [if_pos hs]
  · obtain ⟨hb, hn1, hn2⟩ := bits_raw a2 v2
    rw [if_neg hs, hb]
    generalize (a2 % 28 + 1).toNat = n at *
    have hp := pow_int n (by omega)
    rw [if_pos (by omega), shl1 n (by omega), if_neg (by omega), mod_raw a0 _ v0, mod_raw a1 _ v1]
    have hx : 0 ≤ a0 % ((2 ^ n : Nat) : Int) ∧ a0 % ((2 ^ n : Nat) : Int) < ((2 ^ n : Nat) : Int) := ⟨Int.emod_nonneg _ (by omega), Int.emod_lt_of_pos _ hp.1⟩
    have hu : 0 ≤ a1 % 1073741789 ∧ a1 % 1073741789 < 1073741789 := by omega
    generalize a0 % ((2 ^ n : Nat) : Int) = x at *
    generalize a1 % 1073741789 = u at *
    have hp28 : ((2 ^ n : Nat) : Int) ≤ 268435456 := Int.le_trans (Int.ofNat_le.2 (Nat.pow_le_pow_right (by decide) hn2)) (by decide)
    have hpr : proveP x u n a3 = (prf x u n a3, 0) := by
      unfold proveP
      rw [if_pos ⟨by omega, by omega, decide_eq_true hu⟩, Int.toNat_natCast, if_pos hx]
    have e := comI_eq x u (by omega) hu
    have hvs := prf_valid x u n a3 hu
    have hl := prf_length x u n a3
    rw [Prove_eq x u n a3 (by omega) (by omega) _ (by decide), Option.bind_some, hpr, show commitment_Commit.f x u = some (comI x u) from rfl, Option.bind_some, e]
    dsimp only
    rw [if_pos rfl, if_pos rfl, hl, show ((n : Int) != (n : Int)) = false by simp, wageofficelaw27_RangeproofLengths.j0, if_neg (by decide), if_neg (by omega)]
    have hm : wrap64 ((Int.tmod (wrap64 a4) (n : Int)) + 1) = ((a4 % (n : Int) + 1).toNat : Int) ∧ 1 ≤ (a4 % (n : Int) + 1).toNat ∧ (a4 % (n : Int) + 1).toNat ≤ n := by
      have h1 := Int.emod_nonneg a4 (show (n : Int) ≠ 0 by omega)
      have h2 := Int.emod_lt_of_pos a4 (show 0 < (n : Int) by omega)
      rw [wrap64_id (x := a4) (by omega) (by omega), Int.tmod_eq_emod_of_nonneg v4.1, wrap64_id (by omega) (by omega)]
      omega
    obtain ⟨hm0, hm1, hm2⟩ := hm
    rw [hm0]
    generalize (a4 % (n : Int) + 1).toNat = m at *
    exact loop (prf x u n a3) n m _ hl hn1 hn2 ⟨hm1, hm2⟩ hvs m 0 999 (by omega) (by omega)
end Go.Proofs.YtnlgnmlobklobaaDoor.PureRangeproofLengths
