/- What the printed reference functions of layer 24 compute, said plainly; then the law MerkleMatchesReference, said of the printed functions. -/
import Derived.Test.YtcikhbamdbphaaaPureMer
import Derived.Test.YtcikhbamdbphaaaPAllx5
import Derived.Test.YtcikhbamdbphaaaDigLaw
set_option linter.unusedVariables false
namespace Go.Proofs.Ytcikhbamdbphaaa.PureRef24
open Go.RowKit Go.Proofs.Ytcikhbamdbphaaa Go.Proofs.Ytcikhbamdbphaaa.PAll Go.Proofs.YtcikhbamdbphaaaW.PrintWords Go.Proofs.YtcikhbamdbphaaaW.PrintMore Go.Proofs.YtcikhbamdbphaaaW.PrintLast
open Go.Proofs.Ytcikhbamdbphaaa.Dig Go.Proofs.Ytcikhbamdbphaaa.DigA Go.Proofs.Ytcikhbamdbphaaa.DigB Go.Proofs.Ytcikhbamdbphaaa.Stub Go.Proofs.Ytcikhbamdbphaaa.PureMer
theorem bt_byte (s : ByteArray) (i : Nat) (h : i < s.size) : bt s (i : Int) = ((s[i]).toNat : Int) := by
  unfold bt
  rw [dif_pos (show (i : Int).toNat < s.size by simpa using h)]
  rfl
theorem drop_byte (s : ByteArray) (i : Nat) (h : i < s.size) : s.data.toList.drop i = s[i] :: s.data.toList.drop (i + 1) := by
  rw [List.drop_eq_getElem_cons (by simpa using h)]; rfl
theorem tdiv_shr (x : BitVec 64) (k : Nat) : Int.tdiv (u x) ((2 ^ k : Nat) : Int) = u (x >>> k) := by
  rw [Int.tdiv_eq_ediv_of_nonneg (u_range x).1, u_shr]
theorem tdiv32 (x : BitVec 64) : Int.tdiv (u x) (4294967296 : Int) = u (x >>> 32) := by simpa using tdiv_shr x 32
theorem tdiv31 (x : BitVec 64) : Int.tdiv (u x) (2147483648 : Int) = u (x >>> 31) := by simpa using tdiv_shr x 31
theorem tdiv27 (x : BitVec 64) : Int.tdiv (u x) (134217728 : Int) = u (x >>> 27) := by simpa using tdiv_shr x 27
theorem tdiv33 (x : BitVec 64) : Int.tdiv (u x) (8589934592 : Int) = u (x >>> 33) := by simpa using tdiv_shr x 33
theorem state_loop (s : ByteArray) (hs : s.size ≤ 9223372036854775806) : ∀ (d k i : Nat) (x : BitVec 64), i + d = s.size → d < k →
    wageofficeref23_State.l0 k s (u x) (i : Int) = some (u ((s.data.toList.drop i).foldl (fun x b => stp x (w8 b)) x)) := by
  intro d
  induction d with
  | zero =>
    intro k i x hi hk
    obtain ⟨k, rfl⟩ := rounds (show 0 < k by omega)
    simp only [wageofficeref23_State.l0]
    rw [if_neg (by omega), List.drop_of_length_le (by simp; omega)]
    rfl
  | succ d ih =>
    intro k i x hi hk
    obtain ⟨k, rfl⟩ := rounds (show 0 < k by omega)
    have hlt : i < s.size := by omega
    simp only [wageofficeref23_State.l0]
    rw [if_pos (by omega), if_pos (by omega), bt_byte s i hlt, ← u_w8, u_wrap, u_xor, u_mulK, tdiv32, u_wrap, u_xor, wrap64_id (by omega) (by omega)]
    have := ih k (i + 1) (stp x (w8 s[i])) (by omega) (by omega)
    rw [drop_byte s i hlt]
    simp only [List.foldl_cons]
    exact_mod_cast this
theorem State_eq (s : ByteArray) (hs : s.size ≤ 9223372036854775806) (k : Nat) (hk : s.size < k) : wageofficeref23_State.f k s = some (u (state s.data.toList)) := by
  unfold wageofficeref23_State.f
  have := state_loop s hs s.size k 0 st0 (by omega) hk
  exact this
theorem Finish_eq (x N : BitVec 64) : wageofficeref23_Finish.f (u x) (u N) = some (u (fin x N)) := by
  unfold wageofficeref23_Finish.f
  simp only [u_wrap, u_xor, tdiv31, u_mulA, tdiv27, u_mulB, tdiv33]
  rfl
theorem Sum_eq (s : ByteArray) (hs : s.size ≤ 9223372036854775806) (k : Nat) (hk : s.size < k) : wageofficeref23_Sum.f k s = some (Dig.sum s) := by
  unfold wageofficeref23_Sum.f
  rw [State_eq s hs k hk]
  simp only [Option.bind_some]
  rw [u_nat s.size (by omega), Finish_eq]
  simp only [Option.bind_some]
  simp [Dig.sum, sumL]
theorem LeafText_eq (s : ByteArray) (hs : s.size ≤ 1000) : wageofficeref24_LeafText.f s = some (Mer.leafText s) := by
  unfold wageofficeref24_LeafText.f
  rw [Option.bind_some, if_pos (by show 1 + s.size ≤ _; omega)]; rfl
theorem Leaf_eq (s : ByteArray) (hs : s.size ≤ 1000) (k : Nat) (hk : 1100 ≤ k) : wageofficeref24_Leaf.f k s = some (Mer.leaf s) := by
  have h1 : (Mer.leafText s).size = 1 + s.size := by unfold Mer.leafText; rw [ByteArray.size_append]; rfl
  unfold wageofficeref24_Leaf.f
  rw [LeafText_eq s hs, Option.bind_some, Sum_eq _ (by omega) k (by omega), Option.bind_some]; rfl
theorem first_loop (l : List ByteArray) (hl : l.length ≤ 2000) (hs : Sh l) : ∀ (d k i : Nat) (out : List Int), i + d = l.length → out.length = i → d + 1100 ≤ k → wageofficeref24_first.l0 k l out (i : Int) = some (out ++ (l.drop i).map Mer.leaf) := by
  intro d
  induction d with
  | zero =>
    intro k i out hi ho hk
    obtain ⟨k, rfl⟩ := rounds (show 0 < k by omega)
    rw [wageofficeref24_first.l0, if_neg (by omega), List.drop_of_length_le (by omega), List.map_nil, List.append_nil]
  | succ d ih =>
    intro k i out hi ho hk
    obtain ⟨k, rfl⟩ := rounds (show 0 < k by omega)
    have h1 : i < l.length := by omega
    have h2 := hs l[i] (List.getElem_mem h1)
    have e : l.getD i ByteArray.empty = l[i] := by rw [List.getD_eq_getElem?_getD, List.getElem?_eq_getElem h1]; rfl
    rw [wageofficeref24_first.l0, if_pos (by omega), if_pos (by omega), rdOf_at, e, Leaf_eq _ (by omega) k (by omega), Option.bind_some, if_pos (by omega), wrap64_id (by omega) (by omega)]
    have := ih k (i + 1) (out ++ [Mer.leaf l[i]]) (by omega) (by simp [ho]) (by omega)
    rw [List.drop_eq_getElem_cons h1, List.map_cons]
    rw [List.append_assoc, List.singleton_append] at this
    exact_mod_cast this
theorem first_eq (l : List ByteArray) (hl : l.length ≤ 2000) (hs : Sh l) (k : Nat) (hk : l.length + 1100 ≤ k) : wageofficeref24_first.f k l = some (l.map Mer.leaf) := by
  unfold wageofficeref24_first.f
  have := first_loop l hl hs l.length k 0 [] (by omega) rfl hk
  exact this
/-! ### a word's bytes -/
def wd (d : Int) : Nat → Int
  | 0 => d
  | n + 1 => wd d n / 256
theorem set_getD (l : List Int) (i : Nat) (x : Int) : (l.set i x).length = l.length := by simp
theorem word_eq (d : Int) (h0 : 0 ≤ d) (h1 : d ≤ 18446744073709551615) (k : Nat) (hk : 10 ≤ k) : wageofficeref24_word.f k d = some (Dig.by8 d) := by
  obtain ⟨k, rfl⟩ : ∃ m, k = m + 9 := ⟨k - 9, by omega⟩
  unfold wageofficeref24_word.f
  rw [if_pos (by decide)]
  have hw : ∀ x : Int, 0 ≤ x → x ≤ 18446744073709551615 → IntKind.u64.wrap (Int.tdiv x 256) = x / 256 := fun x a b => by
    rw [Int.tdiv_eq_ediv_of_nonneg a]
    simp [IntKind.wrap, IntKind.bits, IntKind.signed]; omega
  have hm : ∀ x : Int, 0 ≤ x → Int.tmod x 256 % 256 = x % 256 := fun x a => by rw [Int.tmod_eq_emod_of_nonneg a]; omega
  have hww : ∀ x : Int, 0 ≤ x → x ≤ 8 → wrap64 (x - 1) = x - 1 := fun x a b => wrap64_id (by omega) (by omega)
  have e0 : List.replicate 8 (0 : Int) = [0, 0, 0, 0, 0, 0, 0, 0] := rfl
  rw [e0]
  have d1 : (0 : Int) ≤ d / 256 ∧ d / 256 ≤ 18446744073709551615 := by omega
  have d2 : (0 : Int) ≤ d / 65536 ∧ d / 65536 ≤ 18446744073709551615 := by omega
  have d3 : (0 : Int) ≤ d / 16777216 ∧ d / 16777216 ≤ 18446744073709551615 := by omega
  have d4 : (0 : Int) ≤ d / 4294967296 ∧ d / 4294967296 ≤ 18446744073709551615 := by omega
  have d5 : (0 : Int) ≤ d / 1099511627776 ∧ d / 1099511627776 ≤ 18446744073709551615 := by omega
  have d6 : (0 : Int) ≤ d / 281474976710656 ∧ d / 281474976710656 ≤ 18446744073709551615 := by omega
  have d7 : (0 : Int) ≤ d / 72057594037927936 ∧ d / 72057594037927936 ≤ 18446744073709551615 := by omega
  have q2 : d / 256 / 256 = d / 65536 := by omega
  have q3 : d / 65536 / 256 = d / 16777216 := by omega
  have q4 : d / 16777216 / 256 = d / 4294967296 := by omega
  have q5 : d / 4294967296 / 256 = d / 1099511627776 := by omega
  have q6 : d / 1099511627776 / 256 = d / 281474976710656 := by omega
  have q7 : d / 281474976710656 / 256 = d / 72057594037927936 := by omega
  have q8 : d / 72057594037927936 % 256 = d / 72057594037927936 := by omega
  rw [wageofficeref24_word.l0, if_pos (by decide), if_pos (by decide), if_pos (by decide), hw d h0 h1, hm d h0, hww 7 (by decide) (by decide)]
  rw [wageofficeref24_word.l0, if_pos (by decide), if_pos (by decide), if_pos (by simp), hw _ d1.1 d1.2, hm _ d1.1, q2, show ((7 : Int) - 1) = 6 from rfl, hww 6 (by decide) (by decide)]
  rw [wageofficeref24_word.l0, if_pos (by decide), if_pos (by decide), if_pos (by simp), hw _ d2.1 d2.2, hm _ d2.1, q3, show ((6 : Int) - 1) = 5 from rfl, hww 5 (by decide) (by decide)]
  rw [wageofficeref24_word.l0, if_pos (by decide), if_pos (by decide), if_pos (by simp), hw _ d3.1 d3.2, hm _ d3.1, q4, show ((5 : Int) - 1) = 4 from rfl, hww 4 (by decide) (by decide)]
  rw [wageofficeref24_word.l0, if_pos (by decide), if_pos (by decide), if_pos (by simp), hw _ d4.1 d4.2, hm _ d4.1, q5, show ((4 : Int) - 1) = 3 from rfl, hww 3 (by decide) (by decide)]
  rw [wageofficeref24_word.l0, if_pos (by decide), if_pos (by decide), if_pos (by simp), hw _ d5.1 d5.2, hm _ d5.1, q6, show ((3 : Int) - 1) = 2 from rfl, hww 2 (by decide) (by decide)]
  rw [wageofficeref24_word.l0, if_pos (by decide), if_pos (by decide), if_pos (by simp), hw _ d6.1 d6.2, hm _ d6.1, q7, show ((2 : Int) - 1) = 1 from rfl, hww 1 (by decide) (by decide)]
  rw [wageofficeref24_word.l0, if_pos (by decide), if_pos (by decide), if_pos (by simp), hw _ d7.1 d7.2, hm _ d7.1, q8, show ((1 : Int) - 1) = 0 from rfl, hww 0 (by decide) (by decide)]
  rw [wageofficeref24_word.l0, if_neg (by decide)]
  rfl
theorem NodeText_eq {a b : Int} (ha : Mer.Okd a) (hb : Mer.Okd b) (k : Nat) (hk : 10 ≤ k) : wageofficeref24_NodeText.f k a b = some (Dig.pairS a b) := by
  unfold wageofficeref24_NodeText.f
  rw [Option.bind_some, word_eq a ha.1 ha.2 k hk, Option.bind_some, if_pos (by show (9 : Nat) < 140737488355328; decide), Option.bind_some, word_eq b hb.1 hb.2 k hk, Option.bind_some, if_pos (by show (17 : Nat) < 140737488355328; decide)]
  rw [MerN.nums_append, MerN.nums_append]; rfl
theorem Node_eq {a b : Int} (ha : Mer.Okd a) (hb : Mer.Okd b) (k : Nat) (hk : 20 ≤ k) : wageofficeref24_Node.f k a b = some (Mer.pair a b) := by
  unfold wageofficeref24_Node.f
  rw [NodeText_eq ha hb k (by omega), Option.bind_some, Sum_eq _ (by rw [Dig.pairS_size]; decide) k (by rw [Dig.pairS_size]; omega), Option.bind_some]; rfl
theorem rd_at (l : List Int) (i : Nat) : rd l (i : Int) = l.getD i 0 := rfl
theorem okd_at {l : List Int} (h : Mer.OkR l) {i : Nat} (hi : i < l.length) : Mer.Okd (l.getD i 0) := by
  rw [List.getD_eq_getElem?_getD, List.getElem?_eq_getElem hi]; exact h _ (List.getElem_mem hi)
theorem next_loop (l : List Int) (hl : l.length ≤ 2000) (ho : Mer.OkR l) : ∀ (d k j : Nat), (l.length + 1) / 2 = j + d → d + 30 ≤ k → wageofficeref24_next.l0 k l ((Mer.up l).take j) ((2 * j : Nat) : Int) = some (Mer.up l) := by
  intro d
  induction d with
  | zero =>
    intro k j hj hk
    obtain ⟨k, rfl⟩ := rounds (show 0 < k by omega)
    rw [wageofficeref24_next.l0, if_neg (by omega), List.take_of_length_le (by rw [Mer.up_length]; omega)]
  | succ d ih =>
    intro k j hj hk
    obtain ⟨k, rfl⟩ := rounds (show 0 < k by omega)
    have h0 : 2 * j < l.length := by omega
    have hw : wrap64 (((2 * j : Nat) : Int) + 1) = ((2 * j + 1 : Nat) : Int) := by rw [wrap64_id (by omega) (by omega)]; omega
    have hw2 : wrap64 (((2 * j : Nat) : Int) + 2) = ((2 * (j + 1) : Nat) : Int) := by rw [wrap64_id (by omega) (by omega)]; omega
    have hlen : ((Mer.up l).take j).length = j := by rw [List.length_take, Mer.up_length]; omega
    have := ih k (j + 1) (by omega) (by omega)
    rw [wageofficeref24_next.l0, if_pos (by omega), hw, hw2]
    by_cases h1 : 2 * j + 1 < l.length
    · rw [if_pos (by omega), if_pos (by omega), if_pos (by omega), rd_at, rd_at, Node_eq (okd_at ho h0) (okd_at ho h1) k (by omega), Option.bind_some, hlen, if_pos (by omega)]
      rw [Mer.up_take l j h1] at this
      rw [List.getD_eq_getElem?_getD, List.getD_eq_getElem?_getD, List.getElem?_eq_getElem h0, List.getElem?_eq_getElem h1]
      exact this
    · rw [if_neg (by omega), if_pos (by omega), hlen, if_pos (by omega), rd_at]
      rw [Mer.up_take_last l j (by omega)] at this
      rw [List.getD_eq_getElem?_getD, List.getElem?_eq_getElem h0]
      exact this
theorem next_eq (l : List Int) (hl : l.length ≤ 2000) (ho : Mer.OkR l) (k : Nat) (hk : l.length + 30 ≤ k) : wageofficeref24_next.f k l = some (Mer.up l) := by
  unfold wageofficeref24_next.f
  have := next_loop l hl ho ((l.length + 1) / 2) k 0 (by omega) (by omega)
  exact this
theorem Root_loop (n : Nat) : ∀ (l : List Int) (k : Nat), l.length ≤ n → n ≤ 2000 → 0 < l.length → Mer.OkR l → 2 * n + 50 ≤ k → wageofficeref24_Root.l0 k l = some (Mer.top l, 0) := by
  induction n with
  | zero => intro l k h _ h0; omega
  | succ n ih =>
    intro l k h hn h0 ho hk
    obtain ⟨k, rfl⟩ := rounds (show 0 < k by omega)
    rw [wageofficeref24_Root.l0]
    by_cases h1 : (l.length : Int) > 1
    · rw [if_pos h1, next_eq l (by omega) ho k (by omega), Option.bind_some, ih (Mer.up l) k (by rw [Mer.up_length]; omega) (by omega) (by rw [Mer.up_length]; omega) (Mer.up_ok l ho) (by omega), ← Mer.top_up (by omega)]
    · rw [if_neg h1, if_pos (by omega), show (0 : Int) = ((0 : Nat) : Int) from rfl, rd_at, Mer.top_one (by omega)]
theorem Root_eq (l : List ByteArray) (hl : l.length ≤ 2000) (hs : Sh l) (k : Nat) (hk : 8000 ≤ k) : wageofficeref24_Root.f k l = some (Mer.rootF l) := by
  unfold wageofficeref24_Root.f wageofficeref24_wrong.f Mer.rootF
  by_cases h0 : l.length = 0
  · rw [if_pos (by omega), if_pos h0]; rfl
  · rw [if_neg (by omega), if_neg h0]
    by_cases h1 : 1024 < l.length
    · rw [if_pos (by omega), if_pos h1]; rfl
    · rw [if_neg (by omega), if_neg h1, Option.bind_some, if_pos rfl, first_eq l hl hs k (by omega), Option.bind_some, Root_loop (l.map Mer.leaf).length _ k (Nat.le_refl _) (by rw [List.length_map]; omega) (by rw [List.length_map]; omega) (Mer.leaves_ok l) (by rw [List.length_map]; omega)]
theorem steps_odd {l : List Int} {q : Nat} (h : q % 2 = 1) (hq : q < l.length) : Mer.steps l q = [(l.getD (q - 1) 0, true)] := by
  have hs : Mer.sib q = q - 1 := by unfold Mer.sib; rw [if_neg (by omega)]
  unfold Mer.steps
  rw [hs, if_pos (by omega), decide_eq_true (by omega)]
theorem steps_even {l : List Int} {q : Nat} (h : q % 2 = 0) (hq : q + 1 < l.length) : Mer.steps l q = [(l.getD (q + 1) 0, false)] := by
  have hs : Mer.sib q = q + 1 := by unfold Mer.sib; rw [if_pos h]
  unfold Mer.steps
  rw [hs, if_pos hq, decide_eq_false (by omega)]
theorem steps_none {l : List Int} {q : Nat} (h : q % 2 = 0) (hq : ¬ q + 1 < l.length) : Mer.steps l q = [] := by
  have hs : Mer.sib q = q + 1 := by unfold Mer.sib; rw [if_pos h]
  unfold Mer.steps
  rw [hs, if_neg hq]
theorem Path_loop (n : Nat) : ∀ (l : List Int) (q k : Nat) (out : List S42), l.length ≤ n → n ≤ 2000 → q < l.length → Mer.OkR l → out.length + n ≤ 4000 → 2 * n + 50 ≤ k →
    wageofficeref24_Path.l0 k (q : Int) out l = some (out ++ (Mer.path l q).map ofP, 0) := by
  induction n with
  | zero => intro l q k out h _ h0; omega
  | succ n ih =>
    intro l q k out h hn hq ho hout hk
    obtain ⟨k, rfl⟩ := rounds (show 0 < k by omega)
    rw [wageofficeref24_Path.l0]
    by_cases h1 : (l.length : Int) > 1
    · have ht : Int.tmod (q : Int) 2 = ((q % 2 : Nat) : Int) := by rw [show (2 : Int) = ((2 : Nat) : Int) from rfl, tmod_nat]
      have hd : wrap64 (Int.tdiv (q : Int) 2) = ((q / 2 : Nat) : Int) := by rw [Int.tdiv_eq_ediv_of_nonneg (by omega), wrap64_id (by omega) (by omega)]; omega
      have hm1 : q % 2 = 1 → wrap64 ((q : Int) - 1) = ((q - 1 : Nat) : Int) := fun _ => by rw [wrap64_id (by omega) (by omega)]; omega
      have hp1 : wrap64 ((q : Int) + 1) = ((q + 1 : Nat) : Int) := by rw [wrap64_id (by omega) (by omega)]; omega
      have hul := Mer.up_length l
      rw [if_pos h1, ht, hd, hp1, next_eq l (by omega) ho k (by omega), Option.bind_some, Option.bind_some, Mer.path_up (by omega)]
      by_cases h2 : q % 2 = 1
      · rw [if_pos (by omega), hm1 h2, if_pos (by omega), if_pos (by omega), if_pos (by omega), rd_at, steps_odd h2 hq, ih (Mer.up l) (q / 2) k _ (by omega) (by omega) (by omega) (Mer.up_ok l ho) (by simp; omega) (by omega), List.map_append, List.append_assoc]; rfl
      · rw [if_neg (by omega)]
        by_cases h3 : q + 1 < l.length
        · rw [if_pos (by omega), if_pos (by omega), if_pos (by omega), rd_at, steps_even (by omega) h3, ih (Mer.up l) (q / 2) k _ (by omega) (by omega) (by omega) (Mer.up_ok l ho) (by simp; omega) (by omega), List.map_append, List.append_assoc]; rfl
        · rw [if_neg (by omega), steps_none (by omega) h3, Option.bind_some, ih (Mer.up l) (q / 2) k _ (by omega) (by omega) (by omega) (Mer.up_ok l ho) (by omega) (by omega)]; rfl
    · obtain rfl : q = 0 := by omega
      rw [if_neg h1, Mer.path_one (by omega), List.map_nil, List.append_nil]
theorem Path_eq (l : List ByteArray) (hl : l.length ≤ 2000) (hs : Sh l) (i : Int) (k : Nat) (hk : 8000 ≤ k) : wageofficeref24_Path.f k l i = some ((Mer.pathF l i).1.map ofP, (Mer.pathF l i).2) := by
  unfold wageofficeref24_Path.f wageofficeref24_wrong.f Mer.pathF
  by_cases h0 : l.length = 0
  · rw [if_pos (by omega), if_pos h0]; rfl
  · rw [if_neg (by omega), if_neg h0]
    by_cases h1 : 1024 < l.length
    · rw [if_pos (by omega), if_pos h1]; rfl
    · rw [if_neg (by omega), if_neg h1, Option.bind_some, if_pos rfl]
      obtain ⟨k, rfl⟩ := rounds (show 0 < k by omega)
      have htrue : wageofficeref24_Path.j0 (k + 1) l i true = some ([], 1) := by rw [wageofficeref24_Path.j0, if_pos rfl]
      by_cases h2 : i < 0
      · rw [if_pos h2, if_pos (.inl h2)]; exact htrue
      · rw [if_neg h2]
        by_cases h3 : i ≥ (l.length : Int)
        · rw [decide_eq_true h3, if_pos (.inr h3)]; exact htrue
        · obtain ⟨q, rfl⟩ : ∃ q : Nat, i = q := ⟨i.toNat, by omega⟩
          rw [decide_eq_false h3, if_neg (by omega), wageofficeref24_Path.j0, if_neg (by simp), first_eq l hl hs k (by omega), Option.bind_some, Path_loop (l.map Mer.leaf).length _ q k [] (Nat.le_refl _) (by rw [List.length_map]; omega) (by rw [List.length_map]; omega) (Mer.leaves_ok l) (by simp; omega) (by rw [List.length_map]; omega), Int.toNat_natCast]; rfl
end Go.Proofs.Ytcikhbamdbphaaa.PureRef24
namespace Go.Proofs.Ytcikhbamdbphaaa.PureRefB24
open Go.RowKit Go.Proofs.Ytcikhbamdbphaaa Go.Proofs.Ytcikhbamdbphaaa.PAll Go.Proofs.YtcikhbamdbphaaaW.PrintWords Go.Proofs.YtcikhbamdbphaaaW.PrintMore Go.Proofs.YtcikhbamdbphaaaW.PrintLast
open Go.Proofs.Ytcikhbamdbphaaa.Stub Go.Proofs.Ytcikhbamdbphaaa.PureMer Go.Proofs.Ytcikhbamdbphaaa.PureRef24
def chain : ByteArray → List (Int × Bool) → List ByteArray
  | t, [] => [t]
  | t, p :: r => t :: chain (Mer.nodeT p.1 (Dig.sum t) p.2) r
theorem tx_chain : ∀ (k s i : Nat) (t : ByteArray) (r : List (Int × Bool)), 1 ≤ s → s ≤ k → Mer.tx k s i t r = if r.map (·.2) = Mer.sidesF k s i then some (chain t r) else none
  | 0, s, i, t, r, h1, h2 => by omega
  | k + 1, s, i, t, r, h1, h2 => by
    rw [Mer.tx, Mer.sidesF]
    by_cases hc : 1 < s ∧ s ≤ Mer.sib i
    · have hc1 := hc.1
      rw [if_pos hc, if_pos hc.1, if_pos hc.2]
      exact tx_chain k _ _ _ _ (by omega) (by omega)
    · rw [if_neg hc]
      by_cases h3 : s = 1
      · rw [if_pos h3, if_neg (show ¬ 1 < s by omega)]
        cases r with
        | nil => rfl
        | cons p r => rfl
      · rw [if_neg h3, if_pos (show 1 < s by omega), if_neg (show ¬ s ≤ Mer.sib i by omega)]
        cases r with
        | nil => rw [if_pos (show ([] : List (Int × Bool)).isEmpty = true from rfl), if_neg (by simp)]
        | cons p r =>
          rw [if_neg (show ¬ (p :: r).isEmpty = true by simp), List.headD_cons, List.tail_cons, List.map_cons, tx_chain k ((s + 1) / 2) (i / 2) _ _ (by omega) (by omega)]
          by_cases hp : p.2 = decide (i % 2 = 1)
          · rw [if_pos hp]
            by_cases hr : r.map (·.2) = Mer.sidesF k ((s + 1) / 2) (i / 2)
            · rw [if_pos hr, if_pos (by rw [hp, hr]), chain]; rfl
            · rw [if_neg hr, if_neg (fun h => hr (List.cons.inj h).2)]; rfl
          · rw [if_neg hp, if_neg (fun h => hp (List.cons.inj h).1)]
theorem sib_odd {q : Nat} (h : q % 2 = 1) : Mer.sib q = q - 1 := by unfold Mer.sib; rw [if_neg (by omega)]
theorem sib_even {q : Nat} (h : ¬ q % 2 = 1) : Mer.sib q = q + 1 := by unfold Mer.sib; rw [if_pos (by omega)]
theorem Sides_loop (n : Nat) : ∀ (s i k : Nat) (out : List Bool), 1 ≤ s → s ≤ n → n ≤ 2000 → i < s → out.length + n ≤ 5000 → n + 1 ≤ k → wageofficeref24_Sides.l0 k (s : Int) (i : Int) out = some (out ++ Mer.sidesF n s i) := by
  induction n with
  | zero => intro s i k out h1 h2; omega
  | succ n ih =>
    intro s i k out h1 h2 hn hi hout hk
    obtain ⟨k, rfl⟩ := rounds (show 0 < k by omega)
    rw [wageofficeref24_Sides.l0, Mer.sidesF]
    by_cases h3 : 1 < s
    · have hw : wrap64 ((s : Int) + 1) = ((s + 1 : Nat) : Int) := by rw [wrap64_id (by omega) (by omega)]; omega
      have hs : wrap64 (Int.tdiv ((s + 1 : Nat) : Int) 2) = (((s + 1) / 2 : Nat) : Int) := by rw [Int.tdiv_eq_ediv_of_nonneg (by omega), wrap64_id (by omega) (by omega)]; omega
      have hd : wrap64 (Int.tdiv (i : Int) 2) = ((i / 2 : Nat) : Int) := by rw [Int.tdiv_eq_ediv_of_nonneg (by omega), wrap64_id (by omega) (by omega)]; omega
      have ht : Int.tmod (i : Int) 2 = ((i % 2 : Nat) : Int) := by rw [show (2 : Int) = ((2 : Nat) : Int) from rfl, tmod_nat]
      have hp : wrap64 ((i : Int) + 1) = ((i + 1 : Nat) : Int) := by rw [wrap64_id (by omega) (by omega)]; omega
      rw [if_pos (by omega), if_pos h3, ht, hw, hs, hd, hp]
      clear hw hs hd ht hp
      by_cases h4 : i % 2 = 1
      · have hb := sib_odd h4
        rw [hb, if_pos (by omega), if_pos (by omega), ih ((s + 1) / 2) (i / 2) k (out ++ [true]) (by omega) (by omega) (by omega) (by omega) (by simp; omega) (by omega), if_neg (by omega), decide_eq_true h4, List.append_assoc]; rfl
      · have hb := sib_even h4
        rw [hb, if_neg (by omega)]
        by_cases h5 : i + 1 < s
        · rw [if_pos (by omega), if_pos (by omega), ih ((s + 1) / 2) (i / 2) k (out ++ [false]) (by omega) (by omega) (by omega) (by omega) (by simp; omega) (by omega), if_neg (by omega), decide_eq_false h4, List.append_assoc]; rfl
        · rw [if_neg (by omega), ih ((s + 1) / 2) (i / 2) k out (by omega) (by omega) (by omega) (by omega) (by omega) (by omega), if_pos (by omega)]
    · rw [if_neg (by omega), if_neg h3, List.append_nil]
theorem sides_len : ∀ (k s i : Nat), (Mer.sidesF k s i).length ≤ k
  | 0, _, _ => Nat.le_refl _
  | k + 1, s, i => by
    have := sides_len k ((s + 1) / 2) (i / 2)
    rw [Mer.sidesF]
    split
    · split
      · omega
      · rw [List.length_cons]; omega
    · exact Nat.zero_le _
theorem getD_at {α : Type} (l : List α) (d : α) {i : Nat} (h : i < l.length) : l.getD i d = l[i] := by
  rw [List.getD_eq_getElem?_getD, List.getElem?_eq_getElem h]; rfl
theorem getD_end (pre : List ByteArray) (t d : ByteArray) : (pre ++ [t]).getD pre.length d = t := by
  rw [List.getD_eq_getElem?_getD, List.getElem?_append_right (Nat.le_refl _)]; simp
theorem Texts_loop (p : List S42) (sd : List Bool) (hlen : sd.length = p.length) (hp : p.length ≤ 2000) (hok : ∀ x ∈ p, Mer.Okd x.f0) : ∀ (d k i : Nat) (pre : List ByteArray) (t : ByteArray), i + d = p.length → pre.length = i → t.size ≤ 1000 → d + 1200 ≤ k →
    wageofficeref24_Texts.l0 k p sd (pre ++ [t]) (i : Int) = some (if (p.drop i).map (·.f1) = sd.drop i then (pre ++ chain t ((p.drop i).map toP), true) else ([], false)) := by
  intro d
  induction d with
  | zero =>
    intro k i pre t hi hpre ht hk
    obtain ⟨k, rfl⟩ := rounds (show 0 < k by omega)
    rw [wageofficeref24_Texts.l0, if_neg (by omega), List.drop_of_length_le (by omega), List.drop_of_length_le (by omega), List.map_nil, List.map_nil, if_pos rfl, chain]
  | succ d ih =>
    intro k i pre t hi hpre ht hk
    obtain ⟨k, rfl⟩ := rounds (show 0 < k by omega)
    have h1 : i < p.length := by omega
    have h2 : i < sd.length := by omega
    have hw : wrap64 ((i : Int) + 1) = ((i + 1 : Nat) : Int) := by rw [wrap64_id (by omega) (by omega)]; omega
    have hlt : (pre ++ [t]).length = i + 1 := by simp [hpre]
    have hr : rdOf ByteArray.empty (pre ++ [t]) (i : Int) = t := by rw [rdOf_at, ← hpre, getD_end]
    rw [wageofficeref24_Texts.l0, if_pos (by omega), if_pos (by omega), if_pos (by omega), rd_T, rdOf_at, getD_at _ _ h1, getD_at _ _ h2, hr, hw, hlt, List.drop_eq_getElem_cons h1, List.drop_eq_getElem_cons h2, List.map_cons, List.map_cons]
    have ho := hok p[i] (List.getElem_mem h1)
    have hsr := Mer.sum_range t
    generalize p[i] = x at *
    generalize sd[i] = b at *
    have hx : Mer.nodeT (toP x).1 (Dig.sum t) (toP x).2 = if x.f1 = true then Dig.pairS x.f0 (Dig.sum t) else Dig.pairS (Dig.sum t) x.f0 := rfl
    by_cases e : x.f1 = b
    · rw [if_neg (show ¬ (x.f1 != b) = true by rw [e]; simp), if_pos (by omega), Sum_eq t (by omega) k (by omega), Option.bind_some, chain, hx, e]
      have key : ∀ t' : ByteArray, t'.size ≤ 1000 → wageofficeref24_Texts.l0 k p sd ((pre ++ [t]) ++ [t']) ((i + 1 : Nat) : Int) = some (if b :: (p.drop (i + 1)).map (·.f1) = b :: sd.drop (i + 1) then (pre ++ t :: chain t' ((p.drop (i + 1)).map toP), true) else ([], false)) := fun t' h' => by
        rw [ih k (i + 1) (pre ++ [t]) t' (by omega) hlt h' (by omega)]
        congr 1
        by_cases hm : (p.drop (i + 1)).map (·.f1) = sd.drop (i + 1)
        · rw [if_pos hm, if_pos (by rw [hm]), List.append_assoc, List.singleton_append]
        · rw [if_neg hm, if_neg (fun h => hm (List.cons.inj h).2)]
      cases b with
      | true =>
        rw [if_pos (show true = true from rfl), if_pos (show true = true from rfl), NodeText_eq ho hsr k (by omega), Option.bind_some, if_pos (by omega)]
        exact key _ (by rw [Dig.pairS_size]; omega)
      | false =>
        have hft : ¬ false = true := by decide
        rw [if_neg hft, if_neg hft, NodeText_eq hsr ho k (by omega), Option.bind_some, if_pos (by omega)]
        exact key _ (by rw [Dig.pairS_size]; omega)
    · rw [if_pos (by simp [e]), if_neg (fun h => e (List.cons.inj h).1)]
theorem Texts_eq (s i : Int) (leaf : ByteArray) (p : List S42) (hl : leaf.size ≤ 900) (hp : p.length ≤ 2000) (hok : ∀ x ∈ p, Mer.Okd x.f0) (k : Nat) (hk : 5000 ≤ k) :
    wageofficeref24_Texts.f k s i leaf p = some (match Mer.texts s i leaf (p.map toP) with | some l => (l, true) | none => ([], false)) := by
  obtain ⟨k, rfl⟩ := rounds (show 0 < k by omega)
  have hno : wageofficeref24_Texts.j0 (k + 1) s i leaf p true = some ([], false) := by rw [wageofficeref24_Texts.j0, if_pos rfl]
  unfold wageofficeref24_Texts.f
  by_cases hc : 1 ≤ s ∧ s ≤ 1024 ∧ 0 ≤ i ∧ i < s
  · obtain ⟨q, rfl⟩ : ∃ q : Nat, s = q := ⟨s.toNat, by omega⟩
    obtain ⟨j, rfl⟩ : ∃ q : Nat, i = q := ⟨i.toNat, by omega⟩
    have hsl := sides_len q q j
    have hlt : (Mer.leafText leaf).size = 1 + leaf.size := by unfold Mer.leafText; rw [ByteArray.size_append]; rfl
    rw [if_neg (by omega), if_neg (by omega), if_neg (by omega), decide_eq_false (by omega), wageofficeref24_Texts.j0, if_neg (by simp)]
    unfold wageofficeref24_Sides.f
    rw [Sides_loop q q j k [] (by omega) (by omega) (by omega) (by omega) (by simp; omega) (by omega), Option.bind_some, List.nil_append]
    unfold Mer.texts Mer.T
    rw [if_pos hc, Int.toNat_natCast, Int.toNat_natCast, tx_chain _ _ _ _ _ (by omega) (by omega), List.map_map, show ((fun x : Int × Bool => x.2) ∘ toP) = (fun x => x.f1) from rfl]
    generalize Mer.sidesF q q j = sd at *
    by_cases hlen : sd.length = p.length
    · rw [if_pos (by omega), LeafText_eq _ (by omega), Option.bind_some]
      have := Texts_loop p sd hlen hp hok p.length k 0 [] (Mer.leafText leaf) (by omega) rfl (by omega) (by omega)
      rw [List.drop_zero, List.drop_zero, List.nil_append, List.nil_append] at this
      rw [show (0 : Int) = ((0 : Nat) : Int) from rfl, this]
      by_cases hm : p.map (·.f1) = sd
      · rw [if_pos hm, if_pos hm]
      · rw [if_neg hm, if_neg hm]
    · rw [if_neg (by omega), if_neg (fun h => hlen (by rw [← h, List.length_map]))]
  · unfold Mer.texts
    rw [if_neg hc]
    by_cases h1 : s < 1
    · rw [if_pos h1]; exact hno
    · rw [if_neg h1]
      by_cases h2 : s > 1024
      · rw [if_pos h2]; exact hno
      · rw [if_neg h2]
        by_cases h3 : i < 0
        · rw [if_pos h3]; exact hno
        · rw [if_neg h3, decide_eq_true (by omega)]; exact hno
theorem texts_small {s i : Int} {leaf : ByteArray} {r : List (Int × Bool)} {ts : List ByteArray} (h : Mer.texts s i leaf r = some ts) (hs : leaf.size ≤ 900) : 0 < ts.length ∧ (∀ x ∈ ts, x.size ≤ 1000) := by
  unfold Mer.texts at h
  split at h
  · have := Mer.tx_props 1000 (by decide) _ _ _ _ _ _ h (by unfold Mer.leafText; rw [ByteArray.size_append]; show 1 + _ ≤ _; omega)
    exact ⟨List.length_pos_iff.2 this.1, this.2.1⟩
  · cases h
theorem chain_len : ∀ (r : List (Int × Bool)) (t : ByteArray), (chain t r).length = r.length + 1
  | [], _ => rfl
  | _ :: r, t => by rw [chain, List.length_cons, chain_len r, List.length_cons]
theorem texts_len {s i : Int} {leaf : ByteArray} {r : List (Int × Bool)} {ts : List ByteArray} (h : Mer.texts s i leaf r = some ts) : ts.length = r.length + 1 := by
  unfold Mer.texts Mer.T at h
  split at h
  · rw [tx_chain _ _ _ _ _ (by omega) (by omega)] at h
    split at h
    · cases h; exact chain_len _ _
    · cases h
  · cases h
theorem last_size {ts : List ByteArray} (h : ∀ x ∈ ts, x.size ≤ 1000) (i : Nat) : (ts.getD i ByteArray.empty).size ≤ 1000 := by
  by_cases hi : i < ts.length
  · rw [getD_at _ _ hi]; exact h _ (List.getElem_mem hi)
  · rw [List.getD_eq_getElem?_getD, List.getElem?_eq_none (by omega)]; decide
theorem Verify_eq (root s i : Int) (leaf : ByteArray) (p : List S42) (hl : leaf.size ≤ 900) (hp : p.length ≤ 2000) (hok : ∀ x ∈ p, Mer.Okd x.f0) (k : Nat) (hk : 5000 ≤ k) :
    wageofficeref24_Verify.f k root s i leaf p = some (Mer.verifyB root s i leaf (p.map toP)) := by
  unfold wageofficeref24_Verify.f Mer.verifyB
  rw [Texts_eq s i leaf p hl hp hok k hk, Option.bind_some]
  cases h : Mer.texts s i leaf (p.map toP) with
  | none => rfl
  | some ts =>
    have h1 := texts_small h hl
    have h2 := texts_len h
    rw [List.length_map] at h2
    have hw : wrap64 ((ts.length : Int) - 1) = ((ts.length - 1 : Nat) : Int) := by rw [wrap64_id (by omega) (by omega)]; omega
    have h3 := last_size h1.2 (ts.length - 1)
    show (if true = true then _ else _) = _
    rw [if_pos rfl]
    show (if 0 ≤ wrap64 ((ts.length : Int) - 1) then if wrap64 ((ts.length : Int) - 1) < (ts.length : Int) then (wageofficeref23_Sum.f k (rdOf ByteArray.empty ts (wrap64 ((ts.length : Int) - 1)))).bind _ else _ else _) = _
    rw [hw, if_pos (by omega), if_pos (by omega), rdOf_at, Sum_eq _ (by omega) k (by omega), Option.bind_some]
theorem Coll_loop (l m : List ByteArray) (hlm : l.length = m.length) (hl : l.length ≤ 3000) (h1 : ∀ x ∈ l, x.size ≤ 1000) (h2 : ∀ x ∈ m, x.size ≤ 1000) : ∀ (d k i : Nat), i + d = l.length → d + 1200 ≤ k → wageofficeref24_Collision.l0 k l m (i : Int) = some (Mer.FC l m i) := by
  intro d
  induction d with
  | zero =>
    intro k i hi hk
    obtain ⟨k, rfl⟩ := rounds (show 0 < k by omega)
    rw [wageofficeref24_Collision.l0, if_neg (by omega), show i = l.length by omega, Mer.FC_end]
  | succ d ih =>
    intro k i hi hk
    obtain ⟨k, rfl⟩ := rounds (show 0 < k by omega)
    have hw : wrap64 ((i : Int) + 1) = ((i + 1 : Nat) : Int) := by rw [wrap64_id (by omega) (by omega)]; omega
    have a1 := last_size h1 i
    have a2 := last_size h2 i
    have hf := Mer.FC_at (l := l) (m := m) (k := i) (by omega) (by omega)
    rw [wageofficeref24_Collision.l0, if_pos (by omega), if_pos (by omega), if_pos (by omega), hw, ih k (i + 1) (by omega) (by omega), rdOf_at, rdOf_at, hf]
    generalize l.getD i ByteArray.empty = x at *
    generalize m.getD i ByteArray.empty = y at *
    by_cases e : x = y
    · rw [if_pos (by rw [e]), if_pos e]
    · rw [if_neg (fun h => e (by rw [ByteArray.toList_eq, ByteArray.toList_eq] at h; exact ByteArray.ext (Array.toList_inj.mp h))), if_neg e, Sum_eq x (by omega) k (by omega), Sum_eq y (by omega) k (by omega), Option.bind_some, Option.bind_some]
      generalize Dig.sum x = u
      generalize Dig.sum y = v
      by_cases e2 : u = v
      · rw [if_pos e2, if_pos e2]
      · rw [if_neg e2, if_neg e2]
theorem Collision_eq (s i : Int) (a : ByteArray) (p : List S42) (b : ByteArray) (p' : List S42) (ha : a.size ≤ 900) (hb : b.size ≤ 900) (hp : p.length ≤ 2000) (hp' : p'.length ≤ 2000) (hok : ∀ x ∈ p, Mer.Okd x.f0) (hok' : ∀ x ∈ p', Mer.Okd x.f0) (k : Nat) (hk : 6000 ≤ k) :
    wageofficeref24_Collision.f k s i a p b p' = some (Mer.collF s i a (p.map toP) b (p'.map toP)) := by
  obtain ⟨k, rfl⟩ := rounds (show 0 < k by omega)
  have hno : ∀ l m, wageofficeref24_Collision.j0 (k + 1) l m true = some (⟨#[]⟩, ⟨#[]⟩, false) := fun l m => by rw [wageofficeref24_Collision.j0, if_pos rfl]
  unfold wageofficeref24_Collision.f
  rw [Texts_eq s i a p ha hp hok _ (by omega), Texts_eq s i b p' hb hp' hok' _ (by omega), Option.bind_some, Option.bind_some]
  cases h : Mer.texts s i a (p.map toP) with
  | none =>
    rw [Mer.collF_none (.inl h)]
    cases Mer.texts s i b (p'.map toP) with
    | none => exact hno [] []
    | some m => exact hno [] m
  | some l =>
    cases h' : Mer.texts s i b (p'.map toP) with
    | none =>
      rw [Mer.collF_none (.inr h')]
      exact hno l []
    | some m =>
      have l1 := texts_small h ha
      have m1 := texts_small h' hb
      have l2 := texts_len h
      have m2 := texts_len h'
      have hlm := Mer.texts_length h h'
      rw [List.length_map] at l2 m2
      have hw : wrap64 ((l.length : Int) - 1) = ((l.length - 1 : Nat) : Int) := by rw [wrap64_id (by omega) (by omega)]; omega
      have hw' : wrap64 ((m.length : Int) - 1) = ((m.length - 1 : Nat) : Int) := by rw [wrap64_id (by omega) (by omega)]; omega
      have l3 := last_size l1.2 (l.length - 1)
      have m3 := last_size m1.2 (m.length - 1)
      rw [Mer.collF_some h h']
      dsimp only
      rw [if_pos rfl, if_pos rfl, hw, hw', if_pos (by omega), if_pos (by omega), rdOf_at, Sum_eq _ (by omega) _ (by omega), Option.bind_some, if_pos (by omega), if_pos (by omega), rdOf_at, Sum_eq _ (by omega) _ (by omega), Option.bind_some]
      generalize Dig.sum (l.getD (l.length - 1) ByteArray.empty) = u
      generalize Dig.sum (m.getD (m.length - 1) ByteArray.empty) = v
      by_cases e : u = v
      · rw [show (u != v) = false by simp [e], wageofficeref24_Collision.j0, if_neg (by simp), if_pos e]
        have := Coll_loop l m hlm (by omega) l1.2 m1.2 l.length k 0 (by omega) (by omega)
        exact this
      · rw [show (u != v) = true by simp [e], if_neg e]
        exact hno _ _
end Go.Proofs.Ytcikhbamdbphaaa.PureRefB24
namespace Go.Proofs.Ytcikhbamdbphaaa.PureMerkleMatchesReference
open Go.RowKit Go.Proofs.Ytcikhbamdbphaaa Go.Proofs.Ytcikhbamdbphaaa.PAll Go.Proofs.YtcikhbamdbphaaaW.PrintWords Go.Proofs.YtcikhbamdbphaaaW.PrintLast Go.Proofs.Ytcikhbamdbphaaa.Stub Go.Proofs.Ytcikhbamdbphaaa.PureMer Go.Proofs.Ytcikhbamdbphaaa.PureRef24 Go.Proofs.Ytcikhbamdbphaaa.PureRefB24
theorem holds (z0 : List ByteArray) (a1 a2 a3 : Int) (a4 : ByteArray) (z5 : List S42) (a6 : ByteArray) (z7 : List S42) (w1 : (Lit.int .i64 a1).wf = true) (w2 : (Lit.int .u64 a2).wf = true) (w3 : (Lit.int .i64 a3).wf = true) (w4 : a4.size ≤ 140737488351232) (hw5 : ∀ x ∈ z5, (Lit.int .u64 x.f0).wf = true) (w6 : a6.size ≤ 140737488351232) (hw7 : ∀ x ∈ z7, (Lit.int .u64 x.f0).wf = true) : ∃ k, wageofficelaw24_MerkleMatchesReference.f k z0 a1 a2 a3 a4 z5 a6 z7 = some true := by
  obtain ⟨b, hb, hsm⟩ := small_eq z0 (z0.length + 9000) (by omega)
  refine ⟨z0.length + 9000, ?_⟩
  have htrue : wageofficelaw24_MerkleMatchesReference.j0 (z0.length + 9000) z0 a1 a2 a3 a4 z5 a6 z7 true true = some true := by rw [show z0.length + 9000 = (z0.length + 8999) + 1 from rfl, wageofficelaw24_MerkleMatchesReference.j0, if_pos rfl]
  unfold wageofficelaw24_MerkleMatchesReference.f wageofficelaw24_head.f
  rw [Option.bind_some, hb, Option.bind_some]
  cases b with
  | false => rw [if_neg (by simp)]; exact htrue
  | true =>
    obtain ⟨h80, hsh⟩ := hsm rfl
    rw [if_pos rfl]
    by_cases h4 : (a4.size : Int) > 60
    · rw [if_pos h4]; exact htrue
    · rw [if_neg h4]
      by_cases h6 : (a6.size : Int) > 60
      · rw [if_pos h6]; exact htrue
      · rw [if_neg h6]
        by_cases h5 : (z5.length : Int) > 20
        · rw [if_pos h5]; exact htrue
        · rw [if_neg h5]
          by_cases h7 : (z7.length : Int) > 20
          · rw [decide_eq_true h7]; exact htrue
          · have o5 : ∀ x ∈ z5, Mer.Okd x.f0 := fun x hx => wf_u64 (hw5 x hx)
            have o7 : ∀ x ∈ z7, Mer.Okd x.f0 := fun x hx => wf_u64 (hw7 x hx)
            have k5 : okP z5 = true := by unfold okP; rw [List.all_eq_true]; exact fun x hx => decide_eq_true (o5 x hx)
            have k7 : okP z7 = true := by unfold okP; rw [List.all_eq_true]; exact fun x hx => decide_eq_true (o7 x hx)
            have s4 : small a4 = true := by simpa [small] using w4
            have s6 : small a6 = true := by simpa [small] using w6
            have hv := ver_f a2 a3 a1 w4 k5
            have hc : merkle_Collision.f a3 a1 a4 z5 a6 z7 = some (Mer.collF a3 a1 a4 (z5.map toP) a6 (z7.map toP)) := by
              unfold merkle_Collision.f
              rw [if_pos ⟨⟨s4, k5⟩, s6, k7⟩]
            rw [decide_eq_false h7, show z0.length + 9000 = (z0.length + 8999) + 1 from rfl, wageofficelaw24_MerkleMatchesReference.j0, if_neg (by simp), root_f hsh, Root_eq z0 (by omega) hsh _ (by omega), path_f hsh, Path_eq z0 (by omega) hsh a1 _ (by omega), Option.bind_some, Option.bind_some, Option.bind_some, Option.bind_some, if_pos rfl, if_pos rfl, if_pos rfl]
            have hpl : (Mer.pathF z0 a1).1.length < 100 := by
              unfold Mer.pathF
              split
              · decide
              · split
                · decide
                · split
                  · decide
                  · have := (Mer.path_len 10 (z0.map Mer.leaf) a1.toNat (by rw [List.length_map]; omega) (by rw [List.length_map]; omega)).1
                    exact Nat.lt_of_le_of_lt this (by decide)
            rw [same_self _ _ (by
              show (List.map ofP (Mer.pathF z0 a1).1).length < 100 ∧ (List.map ofP (Mer.pathF z0 a1).1).length < _
              rw [List.length_map]; omega), Option.bind_some, if_pos rfl, if_pos rfl, hv, Verify_eq a2 a3 a1 a4 z5 (by omega) (by omega) o5 _ (by omega), hc, Collision_eq a3 a1 a4 z5 a6 z7 (by omega) (by omega) (by omega) (by omega) o5 o7 _ (by omega), Option.bind_some, Option.bind_some, Option.bind_some, Option.bind_some, if_pos (by simp), if_pos rfl, if_pos rfl, beq_self_eq_true]
end Go.Proofs.Ytcikhbamdbphaaa.PureMerkleMatchesReference
