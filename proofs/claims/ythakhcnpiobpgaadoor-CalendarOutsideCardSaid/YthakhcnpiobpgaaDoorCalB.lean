/- The walks of calendar's Day and Parse. -/
import Derived.Test.YthakhcnpiobpgaaDoorCalA
namespace Go.Proofs.YthakhcnpiobpgaaDoor.CalB
open Go.RowKit Go.Proofs.YthakhcnpiobpgaaDoor.Cal Go.Proofs.YthakhcnpiobpgaaDoor.Tool Go.Proofs.YthakhcnpiobpgaaDoor.CalA

theorem ret_two {a b c d : Int} (h : a = c) (h2 : b = d) : Ending.returned (.tuple #[.int .i64 a, .int .i64 b]) = .returned (.tuple #[.int .i64 c, .int .i64 d]) := by rw [h, h2]
theorem day_any (y m d : Int) (w : World) (hT : TabBefore w) : Calls Tryd.prog 25 #[.int .i64 y, .int .i64 m, .int .i64 d] w fun e w' => e = .returned (.tuple #[.int .i64 (day y m d).1, .int .i64 (day y m d).2]) ∧ Below w.heap.size w w' := by
  cases ho : okY y m with
  | false =>
    have e : day y m d = (0, 21) := by unfold day; rw [ho]; rfl
    rw [e]
    clear e
    have hn : ¬ (2000 ≤ y ∧ y ≤ 2099 ∧ 1 ≤ m ∧ m ≤ 12) := fun h => by rw [(okY_iff y m).2 h] at ho; cases ho
    clear ho
    have h4 : y < 2000 ∨ (¬ y < 2000 ∧ 2099 < y) ∨ (¬ y < 2000 ∧ ¬ 2099 < y ∧ m < 1) ∨ (¬ y < 2000 ∧ ¬ 2099 < y ∧ ¬ m < 1 ∧ 12 < m) := by omega
    clear hn
    rcases h4 with h | ⟨h, h2⟩ | ⟨h, h2, h3⟩ | ⟨h, h2, h3, h4⟩
    all_goals
      go_enter Tryd.func25, Tryd.ntmps25
      go_wp2
      go_ret2
      exact ⟨rfl, Below.refl _ _⟩
  | true =>
    obtain ⟨y0, y1, m0, m1⟩ := (okY_iff y m).1 ho
    have hv : day y m d = if 1 ≤ d ∧ d ≤ len (monthOf y m) then (first (monthOf y m) + d - 1, 0) else (0, 21) := by unfold day; rw [ho]; rfl
    have HV := Lib.hid hv
    clear hv ho
    have q0 : 0 ≤ monthOf y m := by unfold monthOf; omega
    have q1 : monthOf y m ≤ 1199 := by unfold monthOf; omega
    have rf := first_bound q0 q1
    have rl := len_range q0 q1
    have hq : (y - 2000) * 12 + m - 1 = monthOf y m := rfl
    have HQ := Lib.hid hq
    clear hq
    generalize monthOf y m = q at *
    by_cases d0 : 1 ≤ d
    · by_cases d1 : d ≤ len q
      · have d2 : d ≤ 31 := by omega
        have hr : day y m d = (first q + d - 1, 0) := by rw [HV.out, if_pos ⟨d0, d1⟩]
        rw [hr]
        clear hr
        go_enter Tryd.func25, Tryd.ntmps25
        go_wp2_with fail
        rw [HQ.out]
        refine (length_any q _ hT).mono ?_
        rintro e w1 ⟨rfl, hb1⟩
        go_wp2_with fail
        refine (first_any q _ (hT.below hb1)).mono ?_
        rintro e w2 ⟨rfl, hb2⟩
        go_wp2
        go_ret2
        exact ⟨rfl, hb1.trans (hb2.mono hb1.size)⟩
      · have hr : day y m d = (0, 21) := by rw [HV.out, if_neg (fun h => d1 h.2)]
        rw [hr]
        clear hr
        go_enter Tryd.func25, Tryd.ntmps25
        go_wp2_with fail
        rw [HQ.out]
        refine (length_any q _ hT).mono ?_
        rintro e w1 ⟨rfl, hb1⟩
        go_wp2
        go_ret2
        exact ⟨rfl, hb1⟩
    · have hr : day y m d = (0, 21) := by rw [HV.out, if_neg (fun h => d0 h.1)]
      rw [hr]
      clear hr
      go_enter Tryd.func25, Tryd.ntmps25
      go_wp2
      go_ret2
      exact ⟨rfl, Below.refl _ _⟩

/-- How many hyphens stand before a place. -/
def dashes (i : Nat) : Nat := (if 4 < i then 1 else 0) + (if 7 < i then 1 else 0)
def Fit (i : Nat) (ps : List Int) : Prop := ps.length = 3 ∧ ∀ j, 0 ≤ ps.getD j 0 ∧ ps.getD j 0 < 10 ^ i
theorem fit_mono {i : Nat} {ps : List Int} (h : Fit i ps) : Fit (i + 1) ps := by
  refine ⟨h.1, fun j => ⟨(h.2 j).1, ?_⟩⟩
  have := (h.2 j).2
  have hp : (0 : Int) < 10 ^ i := Int.pow_pos (by decide)
  rw [Int.pow_succ]
  omega
theorem fit_set {i k : Nat} {ps : List Int} (h : Fit i ps) (c : Int) (c0 : 0 ≤ c) (c1 : c ≤ 9) : Fit (i + 1) (ps.set k (10 * ps.getD k 0 + c)) := by
  refine ⟨by simp [h.1], fun j => ?_⟩
  have hp : (0 : Int) < 10 ^ i := Int.pow_pos (by decide)
  have hk := h.2 k
  have hj := (fit_mono h).2 j
  rw [List.getD_eq_getElem?_getD, List.getElem?_set]
  by_cases e : k = j
  · rw [if_pos e]
    by_cases l : k < ps.length
    · rw [if_pos l]
      simp only [Option.getD_some]
      rw [Int.pow_succ]
      omega
    · rw [if_neg l]
      simp only [Option.getD_none]
      exact ⟨by decide, Int.pow_pos (by decide)⟩
  · rw [if_neg e, ← List.getD_eq_getElem?_getD]
    exact hj
theorem pow_ten {i : Nat} (h : i ≤ 10) : (10 : Int) ^ i ≤ 10000000000 := by
  have e : (10 : Int) ^ i = ((10 ^ i : Nat) : Int) := by simp
  have := Nat.pow_le_pow_right (n := 10) (by decide) h
  rw [e]
  exact Int.ofNat_le.2 this
theorem drop_byte (s : ByteArray) (i : Nat) (h : i < s.size) : s.data.toList.drop i = s[i] :: s.data.toList.drop (i + 1) := by
  rw [List.drop_eq_getElem_cons (by simpa using h)]; rfl

set_option maxHeartbeats 1000000 in
theorem parse_any (s : ByteArray) (w : World) (hT : TabBefore w) : Calls Tryd.prog 27 #[.string s] w fun e w' => e = .returned (.tuple #[.int .i64 (parse s).1, .int .i64 (parse s).2]) ∧ Below w.heap.size w w' := by
  by_cases hs : s.size = 10
  · have hq : ((s.size : Int) == 10) = true := by rw [hs]; rfl
    have hq2 : ((s.size : Int) != 10) = false := by rw [hs]; rfl
    have hp : parse s = match parts s.data.toList 0 0 [0, 0, 0] with | some ps => day (ps.getD 0 0) (ps.getD 1 0) (ps.getD 2 0) | none => (0, 12) := by unfold parse; rw [if_pos hs]; rfl
    obtain ⟨r, hr⟩ : ∃ r, parse s = r := ⟨_, rfl⟩
    rw [hr] at hp ⊢
    have HP := Lib.hid hp
    clear hp hr
    go_enter Tryd.func27, Tryd.ntmps27
    go_wp2
    go_loopg [5, 13] 10 (fun g v5 v13 wr => ∃ (i : Nat) (ps : List Int), i ≤ 10 ∧ 10 - i ≤ g ∧ v13 = .int .i64 i ∧ v5 = .int .i64 (dashes i) ∧ Fit i ps ∧ parts s.data.toList 0 0 [0, 0, 0] = parts (s.data.toList.drop i) i (dashes i) ps ∧
        wr.heap[w.heap.size]? = some (.cells (ps.map (Value.int .i64)).toArray 22 (0, 0)) ∧ Below w.heap.size w wr)
    case atStart => exact ⟨0, [0, 0, 0], Nat.zero_le _, Nat.le_refl _, rfl, rfl, ⟨rfl, fun j => by match j with | 0 => decide | 1 => decide | 2 => decide | n + 3 => exact ⟨Int.le_refl 0, Int.one_pos⟩⟩, rfl, heap_alloc_new _ _, (Below.refl _ _).alloc (Nat.le_refl _) _⟩
    case round =>
      obtain ⟨i, ps, hi, hg, rfl, rfl, hF, hpt, hb, hB⟩ := hrel
      by_cases hlt : i < 10
      · have his : i < s.size := by omega
        have hdr := drop_byte s i his
        rw [hdr] at hpt
        have HPT := Lib.hid hpt
        clear hpt hdr
        have hc : s[i].toNat < 256 := s[i].toNat_lt
        by_cases h47 : i = 4 ∨ i = 7
        · by_cases hd : s[i].toNat = 45
          · have hdash : dashes (i + 1) = dashes i + 1 := by rcases h47 with rfl | rfl <;> rfl
            have hpt2 := HPT.out
            rw [parts, if_pos h47, if_pos hd, ← hdash] at hpt2
            have HPT2 := Lib.hid hpt2
            clear hpt2 HPT
            have hf1 := fit_mono hF
            rcases h47 with rfl | rfl
            · rw [show dashes 4 = 0 from rfl]
              go_wp2
              go_roundg (gk - 1)
              case measure => omega
              case rel => exact ⟨5, ps, by decide, by omega, rfl, rfl, hf1, HPT2.out, hb, hB⟩
            · rw [show dashes 7 = 1 from rfl]
              go_wp2
              go_roundg (gk - 1)
              case measure => omega
              case rel => exact ⟨8, ps, by decide, by omega, rfl, rfl, hf1, HPT2.out, hb, hB⟩
          · have hpt2 := HPT.out
            rw [parts, if_pos h47, if_neg hd] at hpt2
            have hr2 := HP.out
            rw [hpt2] at hr2
            subst hr2
            clear hpt2 HPT HP
            have hd' : (s[i].toNat : Int) ≠ 45 := by omega
            rcases h47 with rfl | rfl
            all_goals
              go_wp2
              go_ret2
              exact ⟨rfl, hB⟩
        · have i4 : ((i : Int) == 4) = false := beq_eq_false_iff_ne.2 (by omega)
          have i7 : ((i : Int) == 7) = false := beq_eq_false_iff_ne.2 (by omega)
          by_cases hd : 48 ≤ s[i].toNat ∧ s[i].toNat ≤ 57
          · obtain ⟨d0, d1⟩ := hd
            have hpt2 := HPT.out
            have hdash : dashes (i + 1) = dashes i := by unfold dashes; congr 1 <;> (congr 1; simp; omega)
            rw [parts, if_neg h47, if_pos ⟨d0, d1⟩] at hpt2
            have HPT2 := Lib.hid hpt2
            clear hpt2 HPT
            have k3 : dashes i < 3 := by unfold dashes; split <;> split <;> decide
            obtain ⟨p0, p1⟩ := hF.2 (dashes i)
            have p2 := Int.lt_of_lt_of_le p1 (pow_ten hi)
            have hcell : wr.cell? ⟨w.heap.size, dashes i, none⟩ = some (.int .i64 (ps.getD (dashes i) 0)) := by
              rw [cell_blk hb]
              have : dashes i < ps.length := by rw [hF.1]; exact k3
              simp [this]
            have hfree := free_blk hb (dashes i)
            clear p1
            generalize hk : dashes i = k at *
            generalize hv : ps.getD k 0 = v at *
            go_wp2
            go_roundg (gk - 1)
            case measure => omega
            case rel =>
              refine ⟨i + 1, ps.set k (10 * v + ((s[i].toNat : Int) - 48)), by omega, by omega, by go_num, by rw [hdash], ?_, by rw [hdash]; exact HPT2.out, ?_, hB.setCell (Nat.le_refl w.heap.size) _⟩
              · rw [← hv]; exact fit_set hF _ (by omega) (by omega)
              · rw [set_blk hb k, List.map_set, List.setIfInBounds_toArray]
          · have hpt2 := HPT.out
            rw [parts, if_neg h47, if_neg hd] at hpt2
            have hr2 := HP.out
            rw [hpt2] at hr2
            subst hr2
            clear hpt2 HPT HP
            have hd' : (s[i].toNat : Int) < 48 ∨ (¬ (s[i].toNat : Int) < 48 ∧ 57 < (s[i].toNat : Int)) := by omega
            clear hd
            rcases hd' with d | ⟨d, d2⟩
            all_goals
              go_wp2
              go_ret2
              exact ⟨rfl, hB⟩
      · obtain rfl : i = 10 := by omega
        have hL := hF.1
        match ps, hL with
        | [y, m, d], _ =>
          have c0 : wr.cell? ⟨w.heap.size, 0, none⟩ = some (.int .i64 y) := cell_blk hb 0
          have c1 : wr.cell? ⟨w.heap.size, 1, none⟩ = some (.int .i64 m) := cell_blk hb 1
          have c2 : wr.cell? ⟨w.heap.size, 2, none⟩ = some (.int .i64 d) := cell_blk hb 2
          have hr2 := HP.out
          rw [hpt, List.drop_eq_nil_of_le (by show s.data.toList.length ≤ 10; rw [Array.length_toList]; exact Nat.le_of_eq hs), parts] at hr2
          replace hr2 : r = day y m d := hr2
          subst hr2
          clear hpt HP
          go_wp2_with fail
          refine (day_any y m d _ (hT.below hB)).mono ?_
          rintro e w1 ⟨rfl, hb1⟩
          go_wp2
          go_ret2
          exact ⟨rfl, hB.trans (hb1.mono hB.size)⟩
  · have hq : ((s.size : Int) == 10) = false := beq_eq_false_iff_ne.2 (by omega)
    have hq2 : ((s.size : Int) != 10) = true := bne_iff_ne.2 (by omega)
    have hr : parse s = (0, 12) := by unfold parse; rw [if_neg hs]
    rw [hr]
    clear hs hr
    go_enter Tryd.func27, Tryd.ntmps27
    go_wp2
    go_ret2
    exact ⟨rfl, Below.refl _ _⟩
end Go.Proofs.YthakhcnpiobpgaaDoor.CalB
