/- The walks of calendar's isMonth, isDay, start, First and Length. -/
import Derived.Test.YthakhcnpiobpgaaDoorProg
import Derived.Test.YthakhcnpiobpgaaDoorTool
import Derived.Test.YthakhcnpiobpgaaDoorCal
import Derived.Deep.QuietTactic
import Derived.BigQuiet
import Derived.IntWalk
import Derived.Deep.LoopGhost
namespace Go.Proofs.YthakhcnpiobpgaaDoor.CalA
open Go.RowKit Go.Proofs.YthakhcnpiobpgaaDoor.Cal Go.Proofs.YthakhcnpiobpgaaDoor.Tool

/-- The table of the days before each month lies in its variable. -/
def TabBefore (W : World) : Prop := ∀ j, j < 13 → W.cell? ⟨0, j, none⟩ = some (.int .i64 (rdI beforeL j))
theorem TabBefore.below {w W : World} (h : TabBefore w) (hb : Below w.heap.size w W) : TabBefore W := fun j hj => (hb.cell (World.block_lt_of_cell? w _ (h j hj))).trans (h j hj)

theorem isMonth_any (m : Int) (w : World) : Calls Tryd.prog 31 #[.int .i64 m] w fun e w' => e = .returned (.bool (okM m)) ∧ w = w' := by
  unfold okM
  by_cases h0 : 0 ≤ m
  · by_cases h1 : m ≤ 1199
    · have e : decide (0 ≤ m ∧ m ≤ 1199) = true := decide_eq_true ⟨h0, h1⟩
      rw [e]
      clear e
      go_enter Tryd.func31, Tryd.ntmps31
      go_wp2
      go_ret
      exact ⟨rfl, rfl⟩
    · have e : decide (0 ≤ m ∧ m ≤ 1199) = false := decide_eq_false (fun h => h1 h.2)
      rw [e]
      clear e
      go_enter Tryd.func31, Tryd.ntmps31
      go_wp2
      go_ret
      exact ⟨rfl, rfl⟩
  · have e : decide (0 ≤ m ∧ m ≤ 1199) = false := decide_eq_false (fun h => h0 h.1)
    rw [e]
    clear e
    go_enter Tryd.func31, Tryd.ntmps31
    go_wp2
    go_ret
    exact ⟨rfl, rfl⟩
theorem isDay_any (m : Int) (w : World) : Calls Tryd.prog 30 #[.int .i64 m] w fun e w' => e = .returned (.bool (okD m)) ∧ w = w' := by
  unfold okD
  by_cases h0 : 0 ≤ m
  · by_cases h1 : m ≤ 36524
    · have e : decide (0 ≤ m ∧ m ≤ 36524) = true := decide_eq_true ⟨h0, h1⟩
      rw [e]
      clear e
      go_enter Tryd.func30, Tryd.ntmps30
      go_wp2
      go_ret
      exact ⟨rfl, rfl⟩
    · have e : decide (0 ≤ m ∧ m ≤ 36524) = false := decide_eq_false (fun h => h1 h.2)
      rw [e]
      clear e
      go_enter Tryd.func30, Tryd.ntmps30
      go_wp2
      go_ret
      exact ⟨rfl, rfl⟩
  · have e : decide (0 ≤ m ∧ m ≤ 36524) = false := decide_eq_false (fun h => h0 h.1)
    rw [e]
    clear e
    go_enter Tryd.func30, Tryd.ntmps30
    go_wp2
    go_ret
    exact ⟨rfl, rfl⟩
theorem yst_any (y : Int) (h0 : 0 ≤ y) (h1 : y ≤ 99) (year : Int) (hy : year = 2000 + y) (w : World) :
    Calls Tryd.prog 34 #[.int .i64 year] w fun e w' => e = .returned (.int .i64 (yst y)) ∧ w = w' := by
  obtain rfl : y = year - 2000 := by omega
  clear hy
  go_enter Tryd.func34, Tryd.ntmps34
  go_wp2
  all_goals
    go_ret
    exact ⟨ret_int (by unfold yst; split <;> omega), rfl⟩
theorem yst_range (y : Int) (h0 : 0 ≤ y) (h1 : y ≤ 99) : 0 ≤ yst y ∧ yst y ≤ 36525 := by unfold yst; split <;> omega
theorem bef_range : ∀ j, j < 13 → 0 ≤ rdI beforeL j ∧ rdI beforeL j ≤ 365 := by decide
theorem wrap64_id {x : Int} (h0 : -9223372036854775808 ≤ x) (h1 : x ≤ 9223372036854775807) : wrap64 x = x := by unfold wrap64; omega
theorem bel_drewN (w : World) (n : Nat) : Below w.heap.size w (w.drewN n) := ⟨rfl, rfl, rfl, Nat.le_refl _, fun _ _ => rfl⟩
theorem first_any (m : Int) (w : World) (hT : TabBefore w) : Calls Tryd.prog 21 #[.int .i64 m] w fun e w' => e = .returned (.int .i64 (first m)) ∧ Below w.heap.size w w' := by
  cases ho : okM m with
  | false =>
    have e : first m = -1 := by unfold first; rw [ho]; rfl
    rw [e]
    clear e
    have HO := Lib.hid ho
    clear ho
    go_enter Tryd.func21, Tryd.ntmps21
    go_wp2_with (go_at_call 31; refine (isMonth_any _ _).mono ?_; rintro e w' ⟨rfl, rfl⟩; rw [HO.out])
    go_ret
    exact ⟨rfl, Below.refl _ _⟩
  | true =>
    obtain ⟨h0, h1⟩ := (okM_iff m).1 ho
    have HO := Lib.hid ho
    clear ho
    have hk : (m % 12).toNat < 13 := by omega
    have hc := hT (m % 12).toNat hk
    have k0 : 0 ≤ m % 12 := by omega
    have k1 : m % 12 < 13 := by omega
    go_enter Tryd.func21, Tryd.ntmps21
    go_wp2_with (go_at_call 31; refine (isMonth_any _ _).mono ?_; rintro e w' ⟨rfl, rfl⟩; rw [HO.out])
    go_quiet ((go_at_call 34; exact Calls.quiet_of_same ((yst_any (m / 12) (by omega) (by omega) _ rfl _).mono fun _ _ h => ⟨h.1, h.2.symm⟩)))
    have y1 := yst_range (m / 12) (by omega) (by omega)
    have b1 := bef_range _ hk
    rw [wrap64_id (by omega) (by omega)]
    clear hc
    have e : first m = first0 m := by unfold first; rw [HO.out]; rfl
    have HE := Lib.hid e
    clear e
    have e2 : first0 m = yst (m / 12) + rdI beforeL (m % 12).toNat + (if m / 12 % 4 = 0 ∧ 2 ≤ m % 12 then 1 else 0) := rfl
    have HE2 := Lib.hid e2
    clear e2
    generalize yst (m / 12) = y at *
    generalize rdI beforeL (m % 12).toNat = b at *
    go_wp2
    all_goals
      go_ret
      refine ⟨ret_int ?_, bel_drewN _ _⟩
      rw [HE.out, HE2.out]
      split <;> omega
theorem length_any (m : Int) (w : World) (hT : TabBefore w) : Calls Tryd.prog 23 #[.int .i64 m] w fun e w' => e = .returned (.int .i64 (len m)) ∧ Below w.heap.size w w' := by
  cases ho : okM m with
  | false =>
    have e : len m = 0 := by unfold len; rw [ho]; rfl
    rw [e]
    clear e
    have HO := Lib.hid ho
    clear ho
    go_enter Tryd.func23, Tryd.ntmps23
    go_wp2_with (go_at_call 31; refine (isMonth_any _ _).mono ?_; rintro e w' ⟨rfl, rfl⟩; rw [HO.out])
    go_ret
    exact ⟨rfl, Below.refl _ _⟩
  | true =>
    obtain ⟨h0, h1⟩ := (okM_iff m).1 ho
    have HO := Lib.hid ho
    clear ho
    have hk : (m % 12).toNat + 1 < 13 := by omega
    have hc := hT (m % 12).toNat (by omega)
    have hc1 := hT ((m % 12).toNat + 1) hk
    have es : (m % 12 + 1).toNat = (m % 12).toNat + 1 := by omega
    rw [← es] at hc1
    have k0 : 0 ≤ m % 12 := by omega
    have k1 : m % 12 < 13 := by omega
    have k2 : 0 ≤ m % 12 + 1 := by omega
    have k3 : m % 12 + 1 < 13 := by omega
    have kw : IntKind.i64.wrap (m % 12 + 1) = m % 12 + 1 := IntWalk.i64_in _ (by omega)
    clear es
    go_enter Tryd.func23, Tryd.ntmps23
    go_wp2_with (go_at_call 31; refine (isMonth_any _ _).mono ?_; rintro e w' ⟨rfl, rfl⟩; rw [HO.out])
    go_quiet (fail)
    have es : (m % 12 + 1).toNat = (m % 12).toNat + 1 := by omega
    have b1 := bef_range (m % 12).toNat (by omega)
    have b2 := bef_range ((m % 12).toNat + 1) hk
    rw [es, wrap64_id (by omega) (by omega)]
    clear hc hc1 kw es
    have e : len m = len0 m := by unfold len; rw [HO.out]; rfl
    have HE := Lib.hid e
    clear e
    have e2 : len0 m = rdI beforeL ((m % 12).toNat + 1) - rdI beforeL (m % 12).toNat + (if m % 12 = 1 ∧ m / 12 % 4 = 0 then 1 else 0) := rfl
    have HE2 := Lib.hid e2
    clear e2
    generalize rdI beforeL ((m % 12).toNat + 1) = y at *
    generalize rdI beforeL (m % 12).toNat = b at *
    clear hk
    go_wp2
    all_goals
      go_ret
      refine ⟨ret_int ?_, bel_drewN _ _⟩
      rw [HE.out, HE2.out]
      (try simp only [beq_iff_eq, beq_eq_false_iff_ne, ne_eq] at *)
      split <;> omega
theorem month_any (d : Int) (w : World) (hT : TabBefore w) : Calls Tryd.prog 17 #[.int .i64 d] w fun e w' => e = .returned (.int .i64 (month d)) ∧ Below w.heap.size w w' := by
  cases ho : okD d with
  | false =>
    have e : month d = -1 := by unfold month; rw [ho]; rfl
    rw [e]
    clear e
    have HO := Lib.hid ho
    clear ho
    go_enter Tryd.func17, Tryd.ntmps17
    go_wp2
    go_step3
    go_wp2_with (go_at_call 30; refine (isDay_any _ _).mono ?_; rintro e w' ⟨rfl, rfl⟩; rw [HO.out])
    rw [Exit.noGoto_ret]
    go_ret
    exact ⟨rfl, Below.refl _ _⟩
  | true =>
    obtain ⟨h0, h1⟩ := (okD_iff d).1 ho
    have HO := Lib.hid ho
    clear ho
    obtain ⟨p0, p1, p2, p3⟩ := month_spec h0 h1
    have HP2 := Lib.hid p2
    have HP3 := Lib.hid p3
    clear p2 p3
    have hm0 : d / 31 ≤ month d := by
      rcases Int.lt_or_le (month d) (d / 31) with h | h
      · have := end_le p0 h (by omega)
        have := (first_bound (m := d / 31) (by omega) (by omega)).2
        have := HP3.out
        omega
      · exact h
    generalize month d = M at *
    go_enter Tryd.func17, Tryd.ntmps17
    go_wp2
    go_step3
    go_wp2_with (go_at_call 30; refine (isDay_any _ _).mono ?_; rintro e w' ⟨rfl, rfl⟩; rw [HO.out])
    go_step3
    go_wp2
    go_loopg [3, 9] (M - d / 31).toNat (fun g v3 _ wr => ∃ m : Int, v3 = .int .i64 m ∧ 0 ≤ m ∧ m ≤ M ∧ M - m ≤ (g : Int) ∧ Below w.heap.size w wr)
    case atStart => exact ⟨d / 31, rfl, by omega, hm0, by omega, Below.refl _ _⟩
    case round =>
      obtain ⟨m, rfl, m0, m1, mg, hB⟩ := hrel
      obtain ⟨G, rfl⟩ : ∃ G, G = gk := ⟨_, rfl⟩
      go_wp2
      go_loopg [3, 9] 12 (fun g v3 v9 wr => ∃ (i : Int), v3 = .int .i64 (m + i) ∧ v9 = .int .i64 i ∧ 0 ≤ i ∧ i ≤ 12 ∧ 12 - i ≤ (g : Int) ∧ m + i ≤ M ∧ Below w.heap.size w wr)
      case atStart => exact ⟨0, by simp, rfl, by omega, by omega, by omega, by omega, hB⟩
      case round =>
        obtain ⟨i, rfl, rfl, i0, i12, ig, iM, hB2⟩ := hrel
        by_cases hi : i < 12
        · have q0 : 0 ≤ m + i := by omega
          have q1 : m + i ≤ 1199 := by omega
          have rf := first_bound q0 q1
          have rl := len_range q0 q1
          have dec : (d < first (m + i) + len (m + i) ∧ m + i = M) ∨ (¬ d < first (m + i) + len (m + i) ∧ m + i + 1 ≤ M) := by
            rcases Int.lt_or_le (m + i) M with h | h
            · have := end_le q0 h p1
              have := HP2.out
              exact .inr ⟨by omega, by omega⟩
            · have e : m + i = M := by omega
              have := HP3.out
              exact .inl ⟨by rw [e]; exact this, e⟩
          go_wp2_with fail
          refine (first_any (m + i) _ (hT.below hB2)).mono ?_
          rintro e w1 ⟨rfl, hb1⟩
          have hB3 := hB2.trans (hb1.mono hB2.size)
          go_wp2_with fail
          refine (length_any (m + i) _ (hT.below hB3)).mono ?_
          rintro e w2 ⟨rfl, hb2⟩
          have hB4 := hB3.trans (hb2.mono hB3.size)
          clear hb1 hb2 hB2 hB3
          generalize first (m + i) = f at *
          generalize len (m + i) = l at *
          rcases dec with ⟨d1, d2⟩ | ⟨d1, d2⟩
          · have D2 := Lib.hid d2
            clear d2
            go_wp2
            (try rw [Exit.noGoto_ret])
            go_ret
            exact ⟨ret_int D2.out, hB4⟩
          · go_wp2
            go_roundg (gk - 1)
            case measure => omega
            case rel => exact ⟨i + 1, by go_num, rfl, by omega, by omega, by omega, by omega, hB4⟩
        · obtain rfl : i = 12 := by omega
          go_wp2
          go_roundg (G - 1)
          case measure => omega
          case rel => exact ⟨m + 12, rfl, by omega, by omega, by omega, hB2⟩
end Go.Proofs.YthakhcnpiobpgaaDoor.CalA
