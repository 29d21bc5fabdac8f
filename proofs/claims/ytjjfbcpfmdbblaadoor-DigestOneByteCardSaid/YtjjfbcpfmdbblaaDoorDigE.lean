/- The walk of digest.Parse. -/
import Derived.Test.YtjjfbcpfmdbblaaDoorDigD
namespace Go.Proofs.YtjjfbcpfmdbblaaDoor.DigE
open Go.RowKit Go.Proofs.YtjjfbcpfmdbblaaDoor.Dig Go.Proofs.YtjjfbcpfmdbblaaDoor.Tool Go.Proofs.YtjjfbcpfmdbblaaDoor.DigD

def hexA : Array Value := (hexL.map (Value.int .u8)).toArray
theorem hi : (Tryd.prog.info? 41).map (·.size) = some hexA.size := by kernel_rfl
theorem hexA_at (k : Nat) (hk : k < 16) (w : World) : (Instr.index 41 (.agg hexA) (.int .i64 (k : Int))).run Tryd.prog w = .ok (.int .u8 (rdI hexL k)) w := by
  match k, hk with
  | 0, _ => rfl
  | 1, _ => rfl
  | 2, _ => rfl
  | 3, _ => rfl
  | 4, _ => rfl
  | 5, _ => rfl
  | 6, _ => rfl
  | 7, _ => rfl
  | 8, _ => rfl
  | 9, _ => rfl
  | 10, _ => rfl
  | 11, _ => rfl
  | 12, _ => rfl
  | 13, _ => rfl
  | 14, _ => rfl
  | 15, _ => rfl
  | n + 16, h => exact absurd h (by omega)
theorem shl_or (d : Int) (h0 : 0 ≤ d) (h1 : d < 1152921504606846976) (j : Nat) (hj : j < 16) : bits .or .u64 (IntKind.u64.wrap (d * 16)) (j : Int) = d * 16 + j := by
  have e : IntKind.u64.wrap (d * 16) = d * 16 := by
    simp only [IntKind.wrap, IntKind.bits, IntKind.signed, Bool.false_and, Bool.false_eq_true, if_false]
    exact Int.emod_eq_of_lt (by omega) (by omega)
  rw [e]
  exact bits_join .u64 64 (by decide) (fun n h0 h1 => by
    simp only [IntKind.wrap, IntKind.bits, IntKind.signed, Bool.false_and, Bool.false_eq_true, if_false]
    exact Int.emod_eq_of_lt h0 h1) 4 (d * 16) j (by omega) (by omega) (by omega) (by omega) (by omega) (by omega)

theorem shl_or' (d : Int) (h0 : 0 ≤ d) (h1 : d < 1152921504606846976) (j : Nat) (hj : j < 16) : bits .or .u64 (d * 16) (j : Int) = d * 16 + j := by
  have h := shl_or d h0 h1 j hj
  have e : IntKind.u64.wrap (d * 16) = d * 16 := by
    simp only [IntKind.wrap, IntKind.bits, IntKind.signed, Bool.false_and, Bool.false_eq_true, if_false]
    exact Int.emod_eq_of_lt (by omega) (by omega)
  rwa [e] at h
/-- What the two variables hold when m digits have been tried. -/
def FndRel (c : Int) (m : Nat) (x : Int) (d f : Value) : Prop :=
  (fnd c m = none ∧ d = .int .u64 x ∧ f = .bool false) ∨ (∃ j : Nat, fnd c m = some j ∧ j < 16 ∧ d = .int .u64 (x * 16 + j) ∧ f = .bool true)

set_option maxHeartbeats 1000000 in
theorem parse_any (s : ByteArray) (w : World) (hT : TabHex w) :
    Calls Tryd.prog 10 #[.string s] w fun e w' => e = .returned (.tuple #[.int .u64 (Dig.parse s).1, .int .i64 (Dig.parse s).2]) ∧ w = w' := by
  by_cases h16 : s.size = 16
  · have hload : ∀ (j : Nat) v, hexA[j]? = some v → w.cell? ⟨0, j, none⟩ = some v := by
      intro j v hj
      have hj16 : j < 16 := by
        rcases Nat.lt_or_ge j 16 with h | h
        · exact h
        · rw [Array.getElem?_eq_none (by show 16 ≤ j; exact h)] at hj; cases hj
      rw [hT j hj16, ← hj]
      simp [hexA, rdI, show j < hexL.length from hj16]
    have hq : ((s.size : Int) == 16) = true := by rw [h16]; rfl
    have hq2 : ((s.size : Int) != 16) = false := by rw [h16]; rfl
    go_enter Tryd.func10, Tryd.ntmps10
    go_wp2
    go_loop [4, 14] (fun d i => ∃ (k : Nat) (x : Int), k ≤ 16 ∧ i = .int .i64 k ∧ d = .int .u64 x ∧ 0 ≤ x ∧ x < 16 ^ k ∧ parseL s.data.toList 0 = parseL (s.data.toList.drop k) x)
      (fun _ i => 16 - (intOf i).toNat)
    case atStart => exact ⟨0, 0, Nat.zero_le _, rfl, rfl, by decide, by decide, rfl⟩
    case round =>
      obtain ⟨k, x, hk, rfl, rfl, hx0, hx1, hp⟩ := hrel
      by_cases hlt : k < 16
      · have hks : k < s.size := by omega
        have hx2 : x < 1152921504606846976 := by
          have h1 : (16 : Int) ^ k ≤ 16 ^ 15 := by exact_mod_cast Nat.pow_le_pow_right (n := 16) (by decide) (show k ≤ 15 by omega)
          have h2 : (16 : Int) ^ 15 = 1152921504606846976 := by decide
          omega
        have hdr : s.data.toList.drop k = s[k] :: s.data.toList.drop (k + 1) := by
          rw [List.drop_eq_getElem_cons (by simpa using hks)]; rfl
        have HP := Lib.hid hp
        have HD := Lib.hid hdr
        clear hp hdr
        go_wp2_with (refine wpList_load_cells rfl 41 _ rfl 0 rfl hexA _ hload Tryd.underlying41 rfl hi ?_)
        obtain ⟨c, hc⟩ : ∃ c : Int, (s[k].toNat : Int) = c := ⟨_, rfl⟩
        have Hc := Lib.hid hc
        clear hc
        go_loop [4, 6, 18] (fun d f i => ∃ m : Nat, m ≤ 16 ∧ i = .int .i64 m ∧ FndRel c m x d f) (fun _ _ i => 16 - (intOf i).toNat)
        case atStart => exact ⟨0, Nat.zero_le _, rfl, .inl ⟨rfl, rfl, rfl⟩⟩
        case round =>
          obtain ⟨m, hm, rfl, hr⟩ := hrel
          by_cases hmt : m < 16
          · have hix := hexA_at m hmt w
            by_cases heq : rdI hexL m = c
            · have hn := (fnd_hit hmt heq).1
              have Hn := Lib.hid (fnd_hit hmt heq).2
              rcases hr with ⟨_, rfl, rfl⟩ | ⟨j, hj, _⟩
              · have he : (rdI hexL m == (s[k].toNat : Int)) = true := by rw [Hc.out]; exact beq_iff_eq.2 heq
                have e1 := shl_or x hx0 hx2 m hmt
                have e2 := shl_or' x hx0 hx2 m hmt
                clear heq hn
                go_wp2
                go_round
                case rel => exact ⟨m + 1, by omega, by go_num, .inr ⟨m, Hn.out, hmt, rfl, rfl⟩⟩
                case measure => simp [intOf]; omega
              · rw [hn] at hj; cases hj
            · have he : (rdI hexL m == (s[k].toNat : Int)) = false := by rw [Hc.out]; exact beq_eq_false_iff_ne.2 heq
              have Hn := Lib.hid (fnd_miss heq)
              clear heq
              rcases hr with ⟨hn, rfl, rfl⟩ | ⟨j, hj, hj16, rfl, rfl⟩
              · have HN := Lib.hid hn
                clear hn
                go_wp2
                go_round
                case rel => exact ⟨m + 1, by omega, by go_num, .inl ⟨Hn.out.trans HN.out, rfl, rfl⟩⟩
                case measure => simp [intOf]; omega
              · have HN := Lib.hid hj
                clear hj
                go_wp2
                go_round
                case rel => exact ⟨m + 1, by omega, by go_num, .inr ⟨j, Hn.out.trans HN.out, hj16, rfl, rfl⟩⟩
                case measure => simp [intOf]; omega
          · obtain rfl : m = 16 := by omega
            rcases hr with ⟨hn, rfl, rfl⟩ | ⟨j, hj, hj16, rfl, rfl⟩
            · have HN := Lib.hid hn
              clear hn
              go_wp2
              go_ret2
              refine ⟨?_, rfl⟩
              have hpn : parseL s.data.toList 0 = none := by
                rw [HP.out, HD.out]
                simp only [parseL, Hc.out, HN.out]
              simp [Dig.parse, h16, hpn]
            · have HN := Lib.hid hj
              clear hj
              go_wp2
              go_round
              case rel =>
                refine ⟨k + 1, x * 16 + j, by omega, by go_num, rfl, by omega, by rw [Int.pow_succ]; omega, ?_⟩
                rw [HP.out, HD.out]
                simp only [parseL, Hc.out, HN.out]
              case measure => simp [intOf]; omega
      · obtain rfl : k = 16 := by omega
        have HP := Lib.hid hp
        clear hp
        go_wp2
        go_ret2
        refine ⟨?_, rfl⟩
        have hpn : parseL s.data.toList 0 = some x := by
          rw [HP.out, List.drop_of_length_le (by simpa using Nat.le_of_eq h16)]
          rfl
        simp [Dig.parse, h16, hpn]
  · have hq : ((s.size : Int) == 16) = false := beq_eq_false_iff_ne.2 (by omega)
    have hq2 : ((s.size : Int) != 16) = true := bne_iff_ne.2 (by omega)
    have HQ := Lib.hid h16
    go_enter Tryd.func10, Tryd.ntmps10
    go_wp2
    go_ret2
    exact ⟨by simp [Dig.parse, HQ.out], rfl⟩
end Go.Proofs.YtjjfbcpfmdbblaaDoor.DigE
