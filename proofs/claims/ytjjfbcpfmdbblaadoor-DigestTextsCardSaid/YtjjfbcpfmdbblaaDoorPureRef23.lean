/- What the printed reference functions of layer 23 compute, said plainly. -/
import Derived.Test.YtjjfbcpfmdbblaaDoorPAllx
import Derived.Test.YtjjfbcpfmdbblaaDoorDigLaw
namespace Go.Proofs.YtjjfbcpfmdbblaaDoor.PureRef23
open Go.RowKit Go.Proofs.YtjjfbcpfmdbblaaDoor Go.Proofs.YtjjfbcpfmdbblaaDoor.PAll Go.Proofs.YtjjfbcpfmdbblaaDoorW.PrintWords Go.Proofs.YtjjfbcpfmdbblaaDoorW.PrintMore
open Go.Proofs.YtjjfbcpfmdbblaaDoor.Dig Go.Proofs.YtjjfbcpfmdbblaaDoor.DigA Go.Proofs.YtjjfbcpfmdbblaaDoor.DigB Go.Proofs.YtjjfbcpfmdbblaaDoor.Stub

theorem wrap64_id {x : Int} (h0 : -9223372036854775808 ≤ x) (h1 : x ≤ 9223372036854775807) : wrap64 x = x := by unfold wrap64; omega
theorem rounds {k : Nat} (h : 0 < k) : ∃ m, k = m + 1 := ⟨k - 1, by omega⟩
theorem bt_byte (s : ByteArray) (i : Nat) (h : i < s.size) : bt s (i : Int) = ((s[i]).toNat : Int) := by
  unfold bt
  rw [dif_pos (show (i : Int).toNat < s.size by simpa using h)]
  rfl
theorem drop_byte (s : ByteArray) (i : Nat) (h : i < s.size) : s.data.toList.drop i = s[i] :: s.data.toList.drop (i + 1) := by
  rw [List.drop_eq_getElem_cons (by simpa using h)]; rfl
theorem tdiv_shr (x : BitVec 64) (k : Nat) : Int.tdiv (u x) ((2 ^ k : Nat) : Int) = u (x >>> k) := by
  rw [Int.tdiv_eq_ediv_of_nonneg (u_range x).1, u_shr]
theorem tdiv32 (x : BitVec 64) : Int.tdiv (u x) (4294967296 : Int) = u (x >>> 32) := by simpa using tdiv_shr x 32
theorem tdiv31 (x : BitVec 64) : Int.tdiv (u x) (2147483648 : Int) = u (x >>> 31) := by simpa using tdiv_shr x 31
theorem tdiv27 (x : BitVec 64) : Int.tdiv (u x) (134217728 : Int) = u (x >>> 27) := by simpa using tdiv_shr x 27
theorem tdiv33 (x : BitVec 64) : Int.tdiv (u x) (8589934592 : Int) = u (x >>> 33) := by simpa using tdiv_shr x 33

theorem state_loop (s : ByteArray) (hs : s.size ≤ 9223372036854775806) : ∀ (d k i : Nat) (x : BitVec 64), i + d = s.size → d < k →
    wageofficeref23_State.l0 k s (u x) (i : Int) = some (u ((s.data.toList.drop i).foldl (fun x b => stp x (w8 b)) x)) := by
  intro d
  induction d with
  | zero =>
    intro k i x hi hk
    obtain ⟨k, rfl⟩ := rounds (show 0 < k by omega)
    simp only [wageofficeref23_State.l0]
    rw [if_neg (by omega), List.drop_of_length_le (by simp; omega)]
    rfl
  | succ d ih =>
    intro k i x hi hk
    obtain ⟨k, rfl⟩ := rounds (show 0 < k by omega)
    have hlt : i < s.size := by omega
    simp only [wageofficeref23_State.l0]
    rw [if_pos (by omega), if_pos (by omega), bt_byte s i hlt, ← u_w8, u_wrap, u_xor, u_mulK, tdiv32, u_wrap, u_xor, wrap64_id (by omega) (by omega)]
    have := ih k (i + 1) (stp x (w8 s[i])) (by omega) (by omega)
    rw [drop_byte s i hlt]
    simp only [List.foldl_cons]
    exact_mod_cast this
theorem State_eq (s : ByteArray) (hs : s.size ≤ 9223372036854775806) (k : Nat) (hk : s.size < k) : wageofficeref23_State.f k s = some (u (state s.data.toList)) := by
  unfold wageofficeref23_State.f
  have := state_loop s hs s.size k 0 st0 (by omega) hk
  exact this
theorem Finish_eq (x N : BitVec 64) : wageofficeref23_Finish.f (u x) (u N) = some (u (fin x N)) := by
  unfold wageofficeref23_Finish.f
  simp only [u_wrap, u_xor, tdiv31, u_mulA, tdiv27, u_mulB, tdiv33]
  rfl
theorem Sum_eq (s : ByteArray) (hs : s.size ≤ 9223372036854775806) (k : Nat) (hk : s.size < k) : wageofficeref23_Sum.f k s = some (Dig.sum s) := by
  unfold wageofficeref23_Sum.f
  rw [State_eq s hs k hk]
  simp only [Option.bind_some]
  rw [u_nat s.size (by omega), Finish_eq]
  simp only [Option.bind_some]
  simp [Dig.sum, sumL]
theorem head_eq (k : Nat) (hk : 2 ≤ k) : wageofficelaw23_head.f k = some true := by
  have h2 : wageofficelaw23_head.f 2 = some true := by decide +kernel
  obtain ⟨d, rfl⟩ : ∃ d, k = 2 + d := ⟨k - 2, by omega⟩
  induction d with
  | zero => exact h2
  | succ d ih => exact wageofficelaw23_head.mono _ _ (ih (by omega))
theorem pick_eq (c n : Int) (hc0 : -9223372036854775808 ≤ c) (hc : c ≤ 9223372036854775807) (hn : 0 < n) : ∃ t, wageofficelaw23_pick.f c n = some t ∧ 0 ≤ t ∧ t < n := by
  unfold wageofficelaw23_pick.f
  by_cases h : c < 0
  · rw [if_pos h, if_neg (by omega), wrap64_id (x := c + 1) (by omega) (by omega), wrap64_id (by omega) (by omega), Int.tmod_eq_emod_of_nonneg (by omega)]
    exact ⟨_, rfl, Int.emod_nonneg _ (by omega), Int.emod_lt_of_pos _ hn⟩
  · rw [if_neg h, if_neg (by omega), Int.tmod_eq_emod_of_nonneg (by omega)]
    exact ⟨_, rfl, Int.emod_nonneg _ (by omega), Int.emod_lt_of_pos _ hn⟩
theorem app_toList (a b : ByteArray) : (a ++ b).data.toList = a.data.toList ++ b.data.toList := by simp [ByteArray.data_append]
theorem ext_toList (s : ByteArray) (a b : Nat) : (s.extract a b).data.toList = (s.data.toList.drop a).take (b - a) := by simp [ByteArray.data_extract, List.extract]
theorem ext_size (s : ByteArray) (a b : Nat) : (s.extract a b).size = min b s.size - a := by simp [ByteArray.size_extract]
theorem mn_le (a b : Int) : mn a b ≤ a ∧ mn a b ≤ b ∧ (mn a b = a ∨ mn a b = b) := by unfold mn; split <;> omega
theorem mn_range (a b : Int) (ha : 0 ≤ a) (hb : 0 ≤ b) : 0 ≤ mn a b ∧ mn a b ≤ a ∧ mn a b ≤ b := by unfold mn; split <;> omega
theorem toNat_succ (j : Nat) : ((j : Int) + 1).toNat = j + 1 := by omega
theorem sum_f (s : ByteArray) (h : s.size ≤ 9223372036854775807) : digest_Sum.f s = some (Dig.sum s) := by unfold digest_Sum.f; rw [if_pos h]
end Go.Proofs.YtjjfbcpfmdbblaaDoor.PureRef23
