/- The law CalendarOutside, walked by hand (lines of the region that draws its order written by wip/tools/out17.py); its contract has the printed texts' form. -/
import Derived.Test.YthakhcnpiobpgaaDoorOutA02
import Derived.Test.YthakhcnpiobpgaaDoorTool
namespace Go.Proofs.YthakhcnpiobpgaaDoor.PAll
open Go.RowKit Go.Proofs.YthakhcnpiobpgaaDoor Go.Proofs.YthakhcnpiobpgaaDoorW.PrintWords Go.Proofs.YthakhcnpiobpgaaDoorW.PrintLast Go.Proofs.YthakhcnpiobpgaaDoorW.PrintMore
open Go.Proofs.YthakhcnpiobpgaaDoor.Cal Go.Proofs.YthakhcnpiobpgaaDoor.CalA Go.Proofs.YthakhcnpiobpgaaDoor.Stub Go.Proofs.YthakhcnpiobpgaaDoor.PureRef02 Go.Proofs.YthakhcnpiobpgaaDoor.PureText02 Go.Proofs.YthakhcnpiobpgaaDoor.PureParseT02 Go.Proofs.YthakhcnpiobpgaaDoor.PureInv02 Go.Proofs.YthakhcnpiobpgaaDoor.OutA02

def i64ok (a : Int) : Bool := decide (-9223372036854775808 ≤ a ∧ a ≤ 9223372036854775807)
theorem i64ok_of {a : Int} (h : i64ok a = true) : -9223372036854775808 ≤ a ∧ a ≤ 9223372036854775807 := by simpa [i64ok] using h
def wageofficelaw02_CalendarOutside.f (_a0 a1 a2 _a3 : Int) : Option Bool := if i64ok a1 = true ∧ i64ok a2 = true then some true else none
theorem textS_c (i : Int) (s : ByteArray) (w : World) (hT : TabBefore w) (h : text i = s) : Calls Tryd.prog 19 #[.int .i64 i] w fun e w' => e = .returned (.string s) ∧ Below w.heap.size w w' := h ▸ text_c i w hT
set_option maxRecDepth 100000 in
set_option maxHeartbeats 4000000 in
theorem outside_any (a0 a1 a2 a3 : Int) (w : World) (b10 : -9223372036854775808 ≤ a1) (b11 : a1 ≤ 9223372036854775807) (b20 : -9223372036854775808 ≤ a2) (b21 : a2 ≤ 9223372036854775807) (hT : TabBefore w) :
    Calls Tryd.prog 8 #[.int .i64 a0, .int .i64 a1, .int .i64 a2, .int .u8 a3] w fun e w' => e = .returned (.bool true) ∧ Below w.heap.size w w' := by
  have cs : (a0 < 0) ∨ (¬ a0 < 0 ∧ a0 > 36524) ∨ (¬ a0 < 0 ∧ ¬ a0 > 36524 ∧ a0 > 1199) ∨ (¬ a0 < 0 ∧ ¬ a0 > 36524 ∧ ¬ a0 > 1199) := by omega
  rcases cs with c | ⟨c, c2⟩ | ⟨c, c2, c3⟩ | ⟨c, c2, c3⟩
  · have hd : okD a0 = false := by cases h : okD a0 with | false => rfl | true => have := (okD_iff a0).1 h; omega
    have HD := Lib.hid hd
    clear hd
    have hm : okM a0 = false := by cases h : okM a0 with | false => rfl | true => have := (okM_iff a0).1 h; omega
    have HM := Lib.hid hm
    clear hm
    go_enter Tryd.func8, Tryd.ntmps8
    have hB := Below.refl w.heap.size w
    go_wp2_with fail
    refine (head_c _ hT).mono ?_
    rintro e w3 ⟨rfl, hb⟩
    replace hB := hB.trans (hb.mono hB.size)
    clear hb
    go_wp2_with fail
    refine (date_c _ _ (hT.below hB) HD.out).mono ?_
    rintro e w3 ⟨rfl, hb⟩
    replace hB := hB.trans (hb.mono hB.size)
    clear hb
    go_wp2_with fail
    refine (later_c _ _ (hT.below hB) HD.out).mono ?_
    rintro e w3 ⟨rfl, hb⟩
    replace hB := hB.trans (hb.mono hB.size)
    clear hb
    go_wp2_with fail
    refine (wd_c _ _ HD.out).mono ?_
    rintro e w3 ⟨rfl, hb⟩
    replace hB := hB.trans (hb.mono hB.size)
    clear hb
    go_wp2_with fail
    refine (month_c _ _ (hT.below hB) HD.out).mono ?_
    rintro e w3 ⟨rfl, hb⟩
    replace hB := hB.trans (hb.mono hB.size)
    clear hb
    go_wp2_with fail
    refine (text0_c _ _ (hT.below hB) HD.out).mono ?_
    rintro e w3 ⟨rfl, hb⟩
    replace hB := hB.trans (hb.mono hB.size)
    clear hb
    go_wp2_with fail
    refine (first_c _ _ (hT.below hB) HM.out).mono ?_
    rintro e w3 ⟨rfl, hb⟩
    replace hB := hB.trans (hb.mono hB.size)
    clear hb
    go_wp2_with fail
    refine (length_c _ _ (hT.below hB) HM.out).mono ?_
    rintro e w3 ⟨rfl, hb⟩
    replace hB := hB.trans (hb.mono hB.size)
    clear hb
    go_wp2_with fail
    refine (pick_c _ _ _ b10 b11 (by decide)).mono ?_
    rintro e w3 ⟨rfl, hb⟩
    replace hB := hB.trans (hb.mono hB.size)
    clear hb
    have hk := pk_range a1 36525 (by decide)
    generalize pk a1 36525 = k at *
    obtain ⟨k0, k1⟩ := hk
    have hsz := text_size k0 (by omega : k ≤ 36524)
    go_wp2_with fail
    refine (text_c _ _ (hT.below hB)).mono ?_
    rintro e w4 ⟨rfl, hb⟩
    replace hB := hB.trans (hb.mono hB.size)
    clear hb
    obtain ⟨s, hs⟩ : ∃ s, text k = s := ⟨_, rfl⟩
    rw [hs] at hsz ⊢
    have HS := Lib.hid hs
    clear hs
    have z1 : ((s.size : Int) != 10) = false := bne_eq_false_iff_eq.mpr (by omega)
    have hcv := Lib.run_convert_string_bytes (P := Tryd.prog) w4 9 41 5 s Tryd.underlying9 Tryd.underlying41 Tryd.underlying5
    go_wp2_with fail
    have hBb := Below.trans hB ((bytes_below w4 s 5).mono hB.size)
    refine (pick_c _ _ _ b20 b21 (by decide)).mono ?_
    rintro e w5 ⟨rfl, hb⟩
    have hj := pk_range a2 10 (by decide)
    obtain ⟨j, hj2⟩ : ∃ j : Nat, pk a2 10 = (j : Int) := ⟨(pk a2 10).toNat, by omega⟩
    rw [hj2] at hj ⊢
    obtain ⟨⟨v0, hcell⟩, hfree, hC, hlt⟩ := store_c hb j (by omega) a3
    replace hBb := hBb.trans (hb.mono hBb.size)
    have hle := hB.size
    have hB6 := hBb.setCell (p := ⟨w4.heap.size, j, none⟩) hle (.int .u8 a3)
    clear hb hBb hj2 hcv
    have hsz2 := chg_size s j a3
    rw [hsz] at hsz2
    have hlen : (chg s j a3).length = 10 := by rw [← strOfNums_size]; exact hsz2
    have hcv2 := conv_c (P := Tryd.prog) Tryd.underlying41 Tryd.underlying5 Tryd.underlying9 10 (grownCap w4 10 0 5) hlen hC
    go_wp2_with fail
    have hlt2 : w4.heap.size < (w5.setCell ⟨w4.heap.size, j, none⟩ (.int .u8 a3)).heap.size := by simpa using hlt
    clear hcell hfree hcv2
    generalize w5.setCell ⟨w4.heap.size, j, none⟩ (.int .u8 a3) = w6 at *
    generalize chg s j a3 = xs at *
    refine (CalB.parse_any (strOfNums xs) w6 (hT.below hB6)).mono ?_
    rintro e w7 ⟨rfl, hb⟩
    have hC7 := cells_below hC hb hlt2
    have hB7 := hB6.trans (hb.mono hB6.size)
    have hlt7 := Nat.lt_of_lt_of_le hlt2 hb.size
    clear hb hlt2 hB6 hC hlt
    have hno := parse_no (strOfNums xs)
    have htp := text_parse (strOfNums xs) hsz2
    generalize parse (strOfNums xs) = q at *
    obtain ⟨i, e⟩ := q
    dsimp only at hno htp
    rcases hno with rfl | ⟨rfl, rfl | rfl⟩
    · obtain ⟨i0, i1, hti⟩ := htp rfl
      have heq := text_eq i0 i1 k0 (by omega)
      rw [hti, HS.out] at heq
      have HEQ := Lib.hid heq
      clear heq htp
      go_wp2_with fail
      refine start_ (n := 19) (S := fun w' => Cells w' w4.heap.size xs) (ds := []) #[false, false, false, false, false, false, false, false, false, false, false, false, false, false, false, false, false, false, false] (by kernel_rfl) rfl rfl (fun i v hv => hC7 i v hv) (fun hHeld => ?_)
      have hB8 : Below w.heap.size w w7.drew := below_drew hB7
      have hlt8 : w4.heap.size < w7.drew.heap.size := hlt7
      generalize w7.drew = w8 at *
      refine pure_ (i := 0) (N := some 122) (v := ?_) (a' := ?_) #[true, false, false, false, false, false, false, false, false, false, false, false, false, false, false, false, false, false, false] rfl rfl (by kernel_rfl) (fun _ _ _ h => h) (Or.inl ⟨by rfl, ?_⟩) ?_ ?_
      rotate_left
      · intro w'
        go_simp
        with_reducible rfl
      rotate_left
      · simp only [Act.put, List.setIfInBounds_toArray, List.set_cons_zero, List.set_cons_succ]
        rfl
      refine pure_ (i := 1) (N := some 123) (v := ?_) (a' := ?_) #[true, true, false, false, false, false, false, false, false, false, false, false, false, false, false, false, false, false, false] rfl rfl (by kernel_rfl) (fun _ _ _ h => h) (Or.inl ⟨by rfl, ?_⟩) ?_ ?_
      rotate_left
      · intro w'
        go_simp
        with_reducible rfl
      rotate_left
      · simp only [Act.put, List.setIfInBounds_toArray, List.set_cons_zero, List.set_cons_succ]
        rfl
      refine pure_ (i := 2) (N := some 124) (v := ?_) (a' := ?_) #[true, true, true, false, false, false, false, false, false, false, false, false, false, false, false, false, false, false, false] rfl rfl (by kernel_rfl) (fun _ _ _ h => h) (Or.inl ⟨by rfl, ?_⟩) ?_ ?_
      rotate_left
      · intro w'
        go_simp
        with_reducible rfl
      rotate_left
      · simp only [Act.put, List.setIfInBounds_toArray, List.set_cons_zero, List.set_cons_succ]
        rfl
      refine pure_ (i := 4) (N := some 126) (v := ?_) (a' := ?_) #[true, true, true, false, true, false, false, false, false, false, false, false, false, false, false, false, false, false, false] rfl rfl (by kernel_rfl) (fun _ _ _ h => h) (Or.inl ⟨by rfl, ?_⟩) ?_ ?_
      rotate_left
      · intro w'
        go_simp
        with_reducible rfl
      rotate_left
      · simp only [Act.put, List.setIfInBounds_toArray, List.set_cons_zero, List.set_cons_succ]
        rfl
      refine take_ (i := 5) (N := some 127) (v := ?_) (a' := ?_) #[true, true, true, false, true, true, false, false, false, false, false, false, false, false, false, false, false, false, false] rfl rfl (by kernel_rfl) (fun _ _ _ h => h) (Or.inl ⟨by rfl, ?_⟩) hHeld ?_ ?_
      rotate_left
      · intro w' hs'
        have hcv3 := conv_c (P := Tryd.prog) Tryd.underlying41 Tryd.underlying5 Tryd.underlying9 10 (grownCap w4 10 0 5) hlen hs'
        go_simp
        with_reducible rfl
      rotate_left
      · simp only [Act.put, List.setIfInBounds_toArray, List.set_cons_zero, List.set_cons_succ]
        rfl
      refine one_ (i := 3) (N := some 125) #[true, true, true, true, true, true, false, false, false, false, false, false, false, false, false, false, false, false, false] rfl rfl (by kernel_rfl) (by decide) (fun K hK => ?_)
      refine goes_ Tryd.func19 (by kernel_rfl) rfl #[.int .i64 i] (by rfl) rfl rfl (by simp only [List.map_toArray, List.map_cons, List.map_nil]; rfl) ?_
      refine (textS_c i _ _ (hT.below hB8) hti).mono ?_
      rintro e w9 ⟨rfl, hb⟩
      refine ⟨_, rfl, ?_⟩
      replace hB9 := hB8.trans (hb.mono hB8.size)
      refine hK.out _ _ (cells_below hHeld hb hlt8) (fun hHeld => ?_)
      clear hK K
      refine norm_ (a' := ?_) ?_ ?_
      rotate_left
      · show Act.put _ (some 125) _ = _
        simp only [Act.put, List.setIfInBounds_toArray, List.set_cons_zero, List.set_cons_succ]
        rfl
      refine pure_ (i := 6) (N := some 128) (v := ?_) (a' := ?_) #[true, true, true, true, true, true, true, false, false, false, false, false, false, false, false, false, false, false, false] rfl rfl (by kernel_rfl) (fun _ _ _ h => h) (Or.inl ⟨by rfl, ?_⟩) ?_ ?_
      rotate_left
      · intro w'
        go_simp
        (try rw [beq_self_eq_true])
        with_reducible rfl
      rotate_left
      · simp only [Act.put, List.setIfInBounds_toArray, List.set_cons_zero, List.set_cons_succ]
        rfl
      refine pure_ (i := 7) (N := some 129) (v := ?_) (a' := ?_) #[true, true, true, true, true, true, true, true, false, false, false, false, false, false, false, false, false, false, false] rfl rfl (by kernel_rfl) (fun _ _ _ h => h) (Or.inl ⟨by rfl, ?_⟩) ?_ ?_
      rotate_left
      · intro w'
        go_simp
        with_reducible rfl
      rotate_left
      · simp only [Act.put, List.setIfInBounds_toArray, List.set_cons_zero, List.set_cons_succ]
        rfl
      refine pure_ (i := 8) (N := some 130) (v := ?_) (a' := ?_) #[true, true, true, true, true, true, true, true, true, false, false, false, false, false, false, false, false, false, false] rfl rfl (by kernel_rfl) (fun _ _ _ h => h) (Or.inl ⟨by rfl, ?_⟩) ?_ ?_
      rotate_left
      · intro w'
        go_simp
        with_reducible rfl
      rotate_left
      · simp only [Act.put, List.setIfInBounds_toArray, List.set_cons_zero, List.set_cons_succ]
        rfl
      refine pure_ (i := 9) (N := some 131) (v := ?_) (a' := ?_) #[true, true, true, true, true, true, true, true, true, true, false, false, false, false, false, false, false, false, false] rfl rfl (by kernel_rfl) (fun _ _ _ h => h) (Or.inl ⟨by rfl, ?_⟩) ?_ ?_
      rotate_left
      · intro w'
        go_simp
        with_reducible rfl
      rotate_left
      · simp only [Act.put, List.setIfInBounds_toArray, List.set_cons_zero, List.set_cons_succ]
        rfl
      refine pure_ (i := 10) (N := some 132) (v := ?_) (a' := ?_) #[true, true, true, true, true, true, true, true, true, true, true, false, false, false, false, false, false, false, false] rfl rfl (by kernel_rfl) (fun _ _ _ h => h) (Or.inl ⟨by rfl, ?_⟩) ?_ ?_
      rotate_left
      · intro w'
        go_simp
        with_reducible rfl
      rotate_left
      · simp only [Act.put, List.setIfInBounds_toArray, List.set_cons_zero, List.set_cons_succ]
        rfl
      refine pure_ (i := 11) (N := some 133) (v := ?_) (a' := ?_) #[true, true, true, true, true, true, true, true, true, true, true, true, false, false, false, false, false, false, false] rfl rfl (by kernel_rfl) (fun _ _ _ h => h) (Or.inl ⟨by rfl, ?_⟩) ?_ ?_
      rotate_left
      · intro w'
        go_simp
        with_reducible rfl
      rotate_left
      · simp only [Act.put, List.setIfInBounds_toArray, List.set_cons_zero, List.set_cons_succ]
        rfl
      refine pure_ (i := 12) (N := some 134) (v := ?_) (a' := ?_) #[true, true, true, true, true, true, true, true, true, true, true, true, true, false, false, false, false, false, false] rfl rfl (by kernel_rfl) (fun _ _ _ h => h) (Or.inl ⟨by rfl, ?_⟩) ?_ ?_
      rotate_left
      · intro w'
        go_simp
        with_reducible rfl
      rotate_left
      · simp only [Act.put, List.setIfInBounds_toArray, List.set_cons_zero, List.set_cons_succ]
        rfl
      refine take_ (i := 13) (N := some 135) (v := ?_) (a' := ?_) #[true, true, true, true, true, true, true, true, true, true, true, true, true, true, false, false, false, false, false] rfl rfl (by kernel_rfl) (fun _ _ _ h => h) (Or.inl ⟨by rfl, ?_⟩) hHeld ?_ ?_
      rotate_left
      · intro w' hs'
        have hcv3 := conv_c (P := Tryd.prog) Tryd.underlying41 Tryd.underlying5 Tryd.underlying9 10 (grownCap w4 10 0 5) hlen hs'
        go_simp
        with_reducible rfl
      rotate_left
      · simp only [Act.put, List.setIfInBounds_toArray, List.set_cons_zero, List.set_cons_succ]
        rfl
      refine pure_ (i := 14) (N := some 136) (v := ?_) (a' := ?_) #[true, true, true, true, true, true, true, true, true, true, true, true, true, true, true, false, false, false, false] rfl rfl (by kernel_rfl) (fun _ _ _ h => h) (Or.inl ⟨by rfl, ?_⟩) ?_ ?_
      rotate_left
      · intro w'
        go_simp
        with_reducible rfl
      rotate_left
      · simp only [Act.put, List.setIfInBounds_toArray, List.set_cons_zero, List.set_cons_succ]
        rfl
      refine pure_ (i := 15) (N := some 137) (v := ?_) (a' := ?_) #[true, true, true, true, true, true, true, true, true, true, true, true, true, true, true, true, false, false, false] rfl rfl (by kernel_rfl) (fun _ _ _ h => h) (Or.inl ⟨by rfl, ?_⟩) ?_ ?_
      rotate_left
      · intro w'
        go_simp
        with_reducible rfl
      rotate_left
      · simp only [Act.put, List.setIfInBounds_toArray, List.set_cons_zero, List.set_cons_succ]
        rfl
      refine pure_ (i := 16) (N := some 138) (v := ?_) (a' := ?_) #[true, true, true, true, true, true, true, true, true, true, true, true, true, true, true, true, true, false, false] rfl rfl (by kernel_rfl) (fun _ _ _ h => h) (Or.inl ⟨by rfl, ?_⟩) ?_ ?_
      rotate_left
      · intro w'
        go_simp
        with_reducible rfl
      rotate_left
      · simp only [Act.put, List.setIfInBounds_toArray, List.set_cons_zero, List.set_cons_succ]
        rfl
      refine pure_ (i := 17) (N := some 139) (v := ?_) (a' := ?_) #[true, true, true, true, true, true, true, true, true, true, true, true, true, true, true, true, true, true, false] rfl rfl (by kernel_rfl) (fun _ _ _ h => h) (Or.inl ⟨by rfl, ?_⟩) ?_ ?_
      rotate_left
      · intro w'
        go_simp
        with_reducible rfl
      rotate_left
      · simp only [Act.put, List.setIfInBounds_toArray, List.set_cons_zero, List.set_cons_succ]
        rfl
      refine pure_ (i := 18) (N := some 8) (v := ?_) (a' := ?_) #[true, true, true, true, true, true, true, true, true, true, true, true, true, true, true, true, true, true, true] rfl rfl (by kernel_rfl) (fun _ _ _ h => h) (Or.inl ⟨by rfl, ?_⟩) ?_ ?_
      rotate_left
      · intro w'
        go_simp
        with_reducible rfl
      rotate_left
      · simp only [Act.put, List.setIfInBounds_toArray, List.set_cons_zero, List.set_cons_succ]
        rfl
      refine done_ (by kernel_rfl) ?_
      go_wp2
      go_ret
      exact ⟨by rw [HEQ.out, beq_self_eq_true]; rfl, hB9⟩
    · go_wp2
      go_ret
      exact ⟨rfl, hB7⟩
    · go_wp2
      go_ret
      exact ⟨rfl, hB7⟩
  · have hd : okD a0 = false := by cases h : okD a0 with | false => rfl | true => have := (okD_iff a0).1 h; omega
    have HD := Lib.hid hd
    clear hd
    have hm : okM a0 = false := by cases h : okM a0 with | false => rfl | true => have := (okM_iff a0).1 h; omega
    have HM := Lib.hid hm
    clear hm
    go_enter Tryd.func8, Tryd.ntmps8
    have hB := Below.refl w.heap.size w
    go_wp2_with fail
    refine (head_c _ hT).mono ?_
    rintro e w3 ⟨rfl, hb⟩
    replace hB := hB.trans (hb.mono hB.size)
    clear hb
    go_wp2_with fail
    refine (date_c _ _ (hT.below hB) HD.out).mono ?_
    rintro e w3 ⟨rfl, hb⟩
    replace hB := hB.trans (hb.mono hB.size)
    clear hb
    go_wp2_with fail
    refine (later_c _ _ (hT.below hB) HD.out).mono ?_
    rintro e w3 ⟨rfl, hb⟩
    replace hB := hB.trans (hb.mono hB.size)
    clear hb
    go_wp2_with fail
    refine (wd_c _ _ HD.out).mono ?_
    rintro e w3 ⟨rfl, hb⟩
    replace hB := hB.trans (hb.mono hB.size)
    clear hb
    go_wp2_with fail
    refine (month_c _ _ (hT.below hB) HD.out).mono ?_
    rintro e w3 ⟨rfl, hb⟩
    replace hB := hB.trans (hb.mono hB.size)
    clear hb
    go_wp2_with fail
    refine (text0_c _ _ (hT.below hB) HD.out).mono ?_
    rintro e w3 ⟨rfl, hb⟩
    replace hB := hB.trans (hb.mono hB.size)
    clear hb
    go_wp2_with fail
    refine (first_c _ _ (hT.below hB) HM.out).mono ?_
    rintro e w3 ⟨rfl, hb⟩
    replace hB := hB.trans (hb.mono hB.size)
    clear hb
    go_wp2_with fail
    refine (length_c _ _ (hT.below hB) HM.out).mono ?_
    rintro e w3 ⟨rfl, hb⟩
    replace hB := hB.trans (hb.mono hB.size)
    clear hb
    go_wp2_with fail
    refine (pick_c _ _ _ b10 b11 (by decide)).mono ?_
    rintro e w3 ⟨rfl, hb⟩
    replace hB := hB.trans (hb.mono hB.size)
    clear hb
    have hk := pk_range a1 36525 (by decide)
    generalize pk a1 36525 = k at *
    obtain ⟨k0, k1⟩ := hk
    have hsz := text_size k0 (by omega : k ≤ 36524)
    go_wp2_with fail
    refine (text_c _ _ (hT.below hB)).mono ?_
    rintro e w4 ⟨rfl, hb⟩
    replace hB := hB.trans (hb.mono hB.size)
    clear hb
    obtain ⟨s, hs⟩ : ∃ s, text k = s := ⟨_, rfl⟩
    rw [hs] at hsz ⊢
    have HS := Lib.hid hs
    clear hs
    have z1 : ((s.size : Int) != 10) = false := bne_eq_false_iff_eq.mpr (by omega)
    have hcv := Lib.run_convert_string_bytes (P := Tryd.prog) w4 9 41 5 s Tryd.underlying9 Tryd.underlying41 Tryd.underlying5
    go_wp2_with fail
    have hBb := Below.trans hB ((bytes_below w4 s 5).mono hB.size)
    refine (pick_c _ _ _ b20 b21 (by decide)).mono ?_
    rintro e w5 ⟨rfl, hb⟩
    have hj := pk_range a2 10 (by decide)
    obtain ⟨j, hj2⟩ : ∃ j : Nat, pk a2 10 = (j : Int) := ⟨(pk a2 10).toNat, by omega⟩
    rw [hj2] at hj ⊢
    obtain ⟨⟨v0, hcell⟩, hfree, hC, hlt⟩ := store_c hb j (by omega) a3
    replace hBb := hBb.trans (hb.mono hBb.size)
    have hle := hB.size
    have hB6 := hBb.setCell (p := ⟨w4.heap.size, j, none⟩) hle (.int .u8 a3)
    clear hb hBb hj2 hcv
    have hsz2 := chg_size s j a3
    rw [hsz] at hsz2
    have hlen : (chg s j a3).length = 10 := by rw [← strOfNums_size]; exact hsz2
    have hcv2 := conv_c (P := Tryd.prog) Tryd.underlying41 Tryd.underlying5 Tryd.underlying9 10 (grownCap w4 10 0 5) hlen hC
    go_wp2_with fail
    have hlt2 : w4.heap.size < (w5.setCell ⟨w4.heap.size, j, none⟩ (.int .u8 a3)).heap.size := by simpa using hlt
    clear hcell hfree hcv2
    generalize w5.setCell ⟨w4.heap.size, j, none⟩ (.int .u8 a3) = w6 at *
    generalize chg s j a3 = xs at *
    refine (CalB.parse_any (strOfNums xs) w6 (hT.below hB6)).mono ?_
    rintro e w7 ⟨rfl, hb⟩
    have hC7 := cells_below hC hb hlt2
    have hB7 := hB6.trans (hb.mono hB6.size)
    have hlt7 := Nat.lt_of_lt_of_le hlt2 hb.size
    clear hb hlt2 hB6 hC hlt
    have hno := parse_no (strOfNums xs)
    have htp := text_parse (strOfNums xs) hsz2
    generalize parse (strOfNums xs) = q at *
    obtain ⟨i, e⟩ := q
    dsimp only at hno htp
    rcases hno with rfl | ⟨rfl, rfl | rfl⟩
    · obtain ⟨i0, i1, hti⟩ := htp rfl
      have heq := text_eq i0 i1 k0 (by omega)
      rw [hti, HS.out] at heq
      have HEQ := Lib.hid heq
      clear heq htp
      go_wp2_with fail
      refine start_ (n := 19) (S := fun w' => Cells w' w4.heap.size xs) (ds := []) #[false, false, false, false, false, false, false, false, false, false, false, false, false, false, false, false, false, false, false] (by kernel_rfl) rfl rfl (fun i v hv => hC7 i v hv) (fun hHeld => ?_)
      have hB8 : Below w.heap.size w w7.drew := below_drew hB7
      have hlt8 : w4.heap.size < w7.drew.heap.size := hlt7
      generalize w7.drew = w8 at *
      refine pure_ (i := 0) (N := some 122) (v := ?_) (a' := ?_) #[true, false, false, false, false, false, false, false, false, false, false, false, false, false, false, false, false, false, false] rfl rfl (by kernel_rfl) (fun _ _ _ h => h) (Or.inl ⟨by rfl, ?_⟩) ?_ ?_
      rotate_left
      · intro w'
        go_simp
        with_reducible rfl
      rotate_left
      · simp only [Act.put, List.setIfInBounds_toArray, List.set_cons_zero, List.set_cons_succ]
        rfl
      refine pure_ (i := 1) (N := some 123) (v := ?_) (a' := ?_) #[true, true, false, false, false, false, false, false, false, false, false, false, false, false, false, false, false, false, false] rfl rfl (by kernel_rfl) (fun _ _ _ h => h) (Or.inl ⟨by rfl, ?_⟩) ?_ ?_
      rotate_left
      · intro w'
        go_simp
        with_reducible rfl
      rotate_left
      · simp only [Act.put, List.setIfInBounds_toArray, List.set_cons_zero, List.set_cons_succ]
        rfl
      refine pure_ (i := 2) (N := some 124) (v := ?_) (a' := ?_) #[true, true, true, false, false, false, false, false, false, false, false, false, false, false, false, false, false, false, false] rfl rfl (by kernel_rfl) (fun _ _ _ h => h) (Or.inl ⟨by rfl, ?_⟩) ?_ ?_
      rotate_left
      · intro w'
        go_simp
        with_reducible rfl
      rotate_left
      · simp only [Act.put, List.setIfInBounds_toArray, List.set_cons_zero, List.set_cons_succ]
        rfl
      refine pure_ (i := 4) (N := some 126) (v := ?_) (a' := ?_) #[true, true, true, false, true, false, false, false, false, false, false, false, false, false, false, false, false, false, false] rfl rfl (by kernel_rfl) (fun _ _ _ h => h) (Or.inl ⟨by rfl, ?_⟩) ?_ ?_
      rotate_left
      · intro w'
        go_simp
        with_reducible rfl
      rotate_left
      · simp only [Act.put, List.setIfInBounds_toArray, List.set_cons_zero, List.set_cons_succ]
        rfl
      refine take_ (i := 5) (N := some 127) (v := ?_) (a' := ?_) #[true, true, true, false, true, true, false, false, false, false, false, false, false, false, false, false, false, false, false] rfl rfl (by kernel_rfl) (fun _ _ _ h => h) (Or.inl ⟨by rfl, ?_⟩) hHeld ?_ ?_
      rotate_left
      · intro w' hs'
        have hcv3 := conv_c (P := Tryd.prog) Tryd.underlying41 Tryd.underlying5 Tryd.underlying9 10 (grownCap w4 10 0 5) hlen hs'
        go_simp
        with_reducible rfl
      rotate_left
      · simp only [Act.put, List.setIfInBounds_toArray, List.set_cons_zero, List.set_cons_succ]
        rfl
      refine one_ (i := 3) (N := some 125) #[true, true, true, true, true, true, false, false, false, false, false, false, false, false, false, false, false, false, false] rfl rfl (by kernel_rfl) (by decide) (fun K hK => ?_)
      refine goes_ Tryd.func19 (by kernel_rfl) rfl #[.int .i64 i] (by rfl) rfl rfl (by simp only [List.map_toArray, List.map_cons, List.map_nil]; rfl) ?_
      refine (textS_c i _ _ (hT.below hB8) hti).mono ?_
      rintro e w9 ⟨rfl, hb⟩
      refine ⟨_, rfl, ?_⟩
      replace hB9 := hB8.trans (hb.mono hB8.size)
      refine hK.out _ _ (cells_below hHeld hb hlt8) (fun hHeld => ?_)
      clear hK K
      refine norm_ (a' := ?_) ?_ ?_
      rotate_left
      · show Act.put _ (some 125) _ = _
        simp only [Act.put, List.setIfInBounds_toArray, List.set_cons_zero, List.set_cons_succ]
        rfl
      refine pure_ (i := 6) (N := some 128) (v := ?_) (a' := ?_) #[true, true, true, true, true, true, true, false, false, false, false, false, false, false, false, false, false, false, false] rfl rfl (by kernel_rfl) (fun _ _ _ h => h) (Or.inl ⟨by rfl, ?_⟩) ?_ ?_
      rotate_left
      · intro w'
        go_simp
        (try rw [beq_self_eq_true])
        with_reducible rfl
      rotate_left
      · simp only [Act.put, List.setIfInBounds_toArray, List.set_cons_zero, List.set_cons_succ]
        rfl
      refine pure_ (i := 7) (N := some 129) (v := ?_) (a' := ?_) #[true, true, true, true, true, true, true, true, false, false, false, false, false, false, false, false, false, false, false] rfl rfl (by kernel_rfl) (fun _ _ _ h => h) (Or.inl ⟨by rfl, ?_⟩) ?_ ?_
      rotate_left
      · intro w'
        go_simp
        with_reducible rfl
      rotate_left
      · simp only [Act.put, List.setIfInBounds_toArray, List.set_cons_zero, List.set_cons_succ]
        rfl
      refine pure_ (i := 8) (N := some 130) (v := ?_) (a' := ?_) #[true, true, true, true, true, true, true, true, true, false, false, false, false, false, false, false, false, false, false] rfl rfl (by kernel_rfl) (fun _ _ _ h => h) (Or.inl ⟨by rfl, ?_⟩) ?_ ?_
      rotate_left
      · intro w'
        go_simp
        with_reducible rfl
      rotate_left
      · simp only [Act.put, List.setIfInBounds_toArray, List.set_cons_zero, List.set_cons_succ]
        rfl
      refine pure_ (i := 9) (N := some 131) (v := ?_) (a' := ?_) #[true, true, true, true, true, true, true, true, true, true, false, false, false, false, false, false, false, false, false] rfl rfl (by kernel_rfl) (fun _ _ _ h => h) (Or.inl ⟨by rfl, ?_⟩) ?_ ?_
      rotate_left
      · intro w'
        go_simp
        with_reducible rfl
      rotate_left
      · simp only [Act.put, List.setIfInBounds_toArray, List.set_cons_zero, List.set_cons_succ]
        rfl
      refine pure_ (i := 10) (N := some 132) (v := ?_) (a' := ?_) #[true, true, true, true, true, true, true, true, true, true, true, false, false, false, false, false, false, false, false] rfl rfl (by kernel_rfl) (fun _ _ _ h => h) (Or.inl ⟨by rfl, ?_⟩) ?_ ?_
      rotate_left
      · intro w'
        go_simp
        with_reducible rfl
      rotate_left
      · simp only [Act.put, List.setIfInBounds_toArray, List.set_cons_zero, List.set_cons_succ]
        rfl
      refine pure_ (i := 11) (N := some 133) (v := ?_) (a' := ?_) #[true, true, true, true, true, true, true, true, true, true, true, true, false, false, false, false, false, false, false] rfl rfl (by kernel_rfl) (fun _ _ _ h => h) (Or.inl ⟨by rfl, ?_⟩) ?_ ?_
      rotate_left
      · intro w'
        go_simp
        with_reducible rfl
      rotate_left
      · simp only [Act.put, List.setIfInBounds_toArray, List.set_cons_zero, List.set_cons_succ]
        rfl
      refine pure_ (i := 12) (N := some 134) (v := ?_) (a' := ?_) #[true, true, true, true, true, true, true, true, true, true, true, true, true, false, false, false, false, false, false] rfl rfl (by kernel_rfl) (fun _ _ _ h => h) (Or.inl ⟨by rfl, ?_⟩) ?_ ?_
      rotate_left
      · intro w'
        go_simp
        with_reducible rfl
      rotate_left
      · simp only [Act.put, List.setIfInBounds_toArray, List.set_cons_zero, List.set_cons_succ]
        rfl
      refine take_ (i := 13) (N := some 135) (v := ?_) (a' := ?_) #[true, true, true, true, true, true, true, true, true, true, true, true, true, true, false, false, false, false, false] rfl rfl (by kernel_rfl) (fun _ _ _ h => h) (Or.inl ⟨by rfl, ?_⟩) hHeld ?_ ?_
      rotate_left
      · intro w' hs'
        have hcv3 := conv_c (P := Tryd.prog) Tryd.underlying41 Tryd.underlying5 Tryd.underlying9 10 (grownCap w4 10 0 5) hlen hs'
        go_simp
        with_reducible rfl
      rotate_left
      · simp only [Act.put, List.setIfInBounds_toArray, List.set_cons_zero, List.set_cons_succ]
        rfl
      refine pure_ (i := 14) (N := some 136) (v := ?_) (a' := ?_) #[true, true, true, true, true, true, true, true, true, true, true, true, true, true, true, false, false, false, false] rfl rfl (by kernel_rfl) (fun _ _ _ h => h) (Or.inl ⟨by rfl, ?_⟩) ?_ ?_
      rotate_left
      · intro w'
        go_simp
        with_reducible rfl
      rotate_left
      · simp only [Act.put, List.setIfInBounds_toArray, List.set_cons_zero, List.set_cons_succ]
        rfl
      refine pure_ (i := 15) (N := some 137) (v := ?_) (a' := ?_) #[true, true, true, true, true, true, true, true, true, true, true, true, true, true, true, true, false, false, false] rfl rfl (by kernel_rfl) (fun _ _ _ h => h) (Or.inl ⟨by rfl, ?_⟩) ?_ ?_
      rotate_left
      · intro w'
        go_simp
        with_reducible rfl
      rotate_left
      · simp only [Act.put, List.setIfInBounds_toArray, List.set_cons_zero, List.set_cons_succ]
        rfl
      refine pure_ (i := 16) (N := some 138) (v := ?_) (a' := ?_) #[true, true, true, true, true, true, true, true, true, true, true, true, true, true, true, true, true, false, false] rfl rfl (by kernel_rfl) (fun _ _ _ h => h) (Or.inl ⟨by rfl, ?_⟩) ?_ ?_
      rotate_left
      · intro w'
        go_simp
        with_reducible rfl
      rotate_left
      · simp only [Act.put, List.setIfInBounds_toArray, List.set_cons_zero, List.set_cons_succ]
        rfl
      refine pure_ (i := 17) (N := some 139) (v := ?_) (a' := ?_) #[true, true, true, true, true, true, true, true, true, true, true, true, true, true, true, true, true, true, false] rfl rfl (by kernel_rfl) (fun _ _ _ h => h) (Or.inl ⟨by rfl, ?_⟩) ?_ ?_
      rotate_left
      · intro w'
        go_simp
        with_reducible rfl
      rotate_left
      · simp only [Act.put, List.setIfInBounds_toArray, List.set_cons_zero, List.set_cons_succ]
        rfl
      refine pure_ (i := 18) (N := some 8) (v := ?_) (a' := ?_) #[true, true, true, true, true, true, true, true, true, true, true, true, true, true, true, true, true, true, true] rfl rfl (by kernel_rfl) (fun _ _ _ h => h) (Or.inl ⟨by rfl, ?_⟩) ?_ ?_
      rotate_left
      · intro w'
        go_simp
        with_reducible rfl
      rotate_left
      · simp only [Act.put, List.setIfInBounds_toArray, List.set_cons_zero, List.set_cons_succ]
        rfl
      refine done_ (by kernel_rfl) ?_
      go_wp2
      go_ret
      exact ⟨by rw [HEQ.out, beq_self_eq_true]; rfl, hB9⟩
    · go_wp2
      go_ret
      exact ⟨rfl, hB7⟩
    · go_wp2
      go_ret
      exact ⟨rfl, hB7⟩
  · have hm : okM a0 = false := by cases h : okM a0 with | false => rfl | true => have := (okM_iff a0).1 h; omega
    have HM := Lib.hid hm
    clear hm
    go_enter Tryd.func8, Tryd.ntmps8
    have hB := Below.refl w.heap.size w
    go_wp2_with fail
    refine (head_c _ hT).mono ?_
    rintro e w3 ⟨rfl, hb⟩
    replace hB := hB.trans (hb.mono hB.size)
    clear hb
    go_wp2_with fail
    refine (first_c _ _ (hT.below hB) HM.out).mono ?_
    rintro e w3 ⟨rfl, hb⟩
    replace hB := hB.trans (hb.mono hB.size)
    clear hb
    go_wp2_with fail
    refine (length_c _ _ (hT.below hB) HM.out).mono ?_
    rintro e w3 ⟨rfl, hb⟩
    replace hB := hB.trans (hb.mono hB.size)
    clear hb
    go_wp2_with fail
    refine (pick_c _ _ _ b10 b11 (by decide)).mono ?_
    rintro e w3 ⟨rfl, hb⟩
    replace hB := hB.trans (hb.mono hB.size)
    clear hb
    have hk := pk_range a1 36525 (by decide)
    generalize pk a1 36525 = k at *
    obtain ⟨k0, k1⟩ := hk
    have hsz := text_size k0 (by omega : k ≤ 36524)
    go_wp2_with fail
    refine (text_c _ _ (hT.below hB)).mono ?_
    rintro e w4 ⟨rfl, hb⟩
    replace hB := hB.trans (hb.mono hB.size)
    clear hb
    obtain ⟨s, hs⟩ : ∃ s, text k = s := ⟨_, rfl⟩
    rw [hs] at hsz ⊢
    have HS := Lib.hid hs
    clear hs
    have z1 : ((s.size : Int) != 10) = false := bne_eq_false_iff_eq.mpr (by omega)
    have hcv := Lib.run_convert_string_bytes (P := Tryd.prog) w4 9 41 5 s Tryd.underlying9 Tryd.underlying41 Tryd.underlying5
    go_wp2_with fail
    have hBb := Below.trans hB ((bytes_below w4 s 5).mono hB.size)
    refine (pick_c _ _ _ b20 b21 (by decide)).mono ?_
    rintro e w5 ⟨rfl, hb⟩
    have hj := pk_range a2 10 (by decide)
    obtain ⟨j, hj2⟩ : ∃ j : Nat, pk a2 10 = (j : Int) := ⟨(pk a2 10).toNat, by omega⟩
    rw [hj2] at hj ⊢
    obtain ⟨⟨v0, hcell⟩, hfree, hC, hlt⟩ := store_c hb j (by omega) a3
    replace hBb := hBb.trans (hb.mono hBb.size)
    have hle := hB.size
    have hB6 := hBb.setCell (p := ⟨w4.heap.size, j, none⟩) hle (.int .u8 a3)
    clear hb hBb hj2 hcv
    have hsz2 := chg_size s j a3
    rw [hsz] at hsz2
    have hlen : (chg s j a3).length = 10 := by rw [← strOfNums_size]; exact hsz2
    have hcv2 := conv_c (P := Tryd.prog) Tryd.underlying41 Tryd.underlying5 Tryd.underlying9 10 (grownCap w4 10 0 5) hlen hC
    go_wp2_with fail
    have hlt2 : w4.heap.size < (w5.setCell ⟨w4.heap.size, j, none⟩ (.int .u8 a3)).heap.size := by simpa using hlt
    clear hcell hfree hcv2
    generalize w5.setCell ⟨w4.heap.size, j, none⟩ (.int .u8 a3) = w6 at *
    generalize chg s j a3 = xs at *
    refine (CalB.parse_any (strOfNums xs) w6 (hT.below hB6)).mono ?_
    rintro e w7 ⟨rfl, hb⟩
    have hC7 := cells_below hC hb hlt2
    have hB7 := hB6.trans (hb.mono hB6.size)
    have hlt7 := Nat.lt_of_lt_of_le hlt2 hb.size
    clear hb hlt2 hB6 hC hlt
    have hno := parse_no (strOfNums xs)
    have htp := text_parse (strOfNums xs) hsz2
    generalize parse (strOfNums xs) = q at *
    obtain ⟨i, e⟩ := q
    dsimp only at hno htp
    rcases hno with rfl | ⟨rfl, rfl | rfl⟩
    · obtain ⟨i0, i1, hti⟩ := htp rfl
      have heq := text_eq i0 i1 k0 (by omega)
      rw [hti, HS.out] at heq
      have HEQ := Lib.hid heq
      clear heq htp
      go_wp2_with fail
      refine start_ (n := 19) (S := fun w' => Cells w' w4.heap.size xs) (ds := []) #[false, false, false, false, false, false, false, false, false, false, false, false, false, false, false, false, false, false, false] (by kernel_rfl) rfl rfl (fun i v hv => hC7 i v hv) (fun hHeld => ?_)
      have hB8 : Below w.heap.size w w7.drew := below_drew hB7
      have hlt8 : w4.heap.size < w7.drew.heap.size := hlt7
      generalize w7.drew = w8 at *
      refine pure_ (i := 0) (N := some 122) (v := ?_) (a' := ?_) #[true, false, false, false, false, false, false, false, false, false, false, false, false, false, false, false, false, false, false] rfl rfl (by kernel_rfl) (fun _ _ _ h => h) (Or.inl ⟨by rfl, ?_⟩) ?_ ?_
      rotate_left
      · intro w'
        go_simp
        with_reducible rfl
      rotate_left
      · simp only [Act.put, List.setIfInBounds_toArray, List.set_cons_zero, List.set_cons_succ]
        rfl
      refine pure_ (i := 1) (N := some 123) (v := ?_) (a' := ?_) #[true, true, false, false, false, false, false, false, false, false, false, false, false, false, false, false, false, false, false] rfl rfl (by kernel_rfl) (fun _ _ _ h => h) (Or.inl ⟨by rfl, ?_⟩) ?_ ?_
      rotate_left
      · intro w'
        go_simp
        with_reducible rfl
      rotate_left
      · simp only [Act.put, List.setIfInBounds_toArray, List.set_cons_zero, List.set_cons_succ]
        rfl
      refine pure_ (i := 2) (N := some 124) (v := ?_) (a' := ?_) #[true, true, true, false, false, false, false, false, false, false, false, false, false, false, false, false, false, false, false] rfl rfl (by kernel_rfl) (fun _ _ _ h => h) (Or.inl ⟨by rfl, ?_⟩) ?_ ?_
      rotate_left
      · intro w'
        go_simp
        with_reducible rfl
      rotate_left
      · simp only [Act.put, List.setIfInBounds_toArray, List.set_cons_zero, List.set_cons_succ]
        rfl
      refine pure_ (i := 4) (N := some 126) (v := ?_) (a' := ?_) #[true, true, true, false, true, false, false, false, false, false, false, false, false, false, false, false, false, false, false] rfl rfl (by kernel_rfl) (fun _ _ _ h => h) (Or.inl ⟨by rfl, ?_⟩) ?_ ?_
      rotate_left
      · intro w'
        go_simp
        with_reducible rfl
      rotate_left
      · simp only [Act.put, List.setIfInBounds_toArray, List.set_cons_zero, List.set_cons_succ]
        rfl
      refine take_ (i := 5) (N := some 127) (v := ?_) (a' := ?_) #[true, true, true, false, true, true, false, false, false, false, false, false, false, false, false, false, false, false, false] rfl rfl (by kernel_rfl) (fun _ _ _ h => h) (Or.inl ⟨by rfl, ?_⟩) hHeld ?_ ?_
      rotate_left
      · intro w' hs'
        have hcv3 := conv_c (P := Tryd.prog) Tryd.underlying41 Tryd.underlying5 Tryd.underlying9 10 (grownCap w4 10 0 5) hlen hs'
        go_simp
        with_reducible rfl
      rotate_left
      · simp only [Act.put, List.setIfInBounds_toArray, List.set_cons_zero, List.set_cons_succ]
        rfl
      refine one_ (i := 3) (N := some 125) #[true, true, true, true, true, true, false, false, false, false, false, false, false, false, false, false, false, false, false] rfl rfl (by kernel_rfl) (by decide) (fun K hK => ?_)
      refine goes_ Tryd.func19 (by kernel_rfl) rfl #[.int .i64 i] (by rfl) rfl rfl (by simp only [List.map_toArray, List.map_cons, List.map_nil]; rfl) ?_
      refine (textS_c i _ _ (hT.below hB8) hti).mono ?_
      rintro e w9 ⟨rfl, hb⟩
      refine ⟨_, rfl, ?_⟩
      replace hB9 := hB8.trans (hb.mono hB8.size)
      refine hK.out _ _ (cells_below hHeld hb hlt8) (fun hHeld => ?_)
      clear hK K
      refine norm_ (a' := ?_) ?_ ?_
      rotate_left
      · show Act.put _ (some 125) _ = _
        simp only [Act.put, List.setIfInBounds_toArray, List.set_cons_zero, List.set_cons_succ]
        rfl
      refine pure_ (i := 6) (N := some 128) (v := ?_) (a' := ?_) #[true, true, true, true, true, true, true, false, false, false, false, false, false, false, false, false, false, false, false] rfl rfl (by kernel_rfl) (fun _ _ _ h => h) (Or.inl ⟨by rfl, ?_⟩) ?_ ?_
      rotate_left
      · intro w'
        go_simp
        (try rw [beq_self_eq_true])
        with_reducible rfl
      rotate_left
      · simp only [Act.put, List.setIfInBounds_toArray, List.set_cons_zero, List.set_cons_succ]
        rfl
      refine pure_ (i := 7) (N := some 129) (v := ?_) (a' := ?_) #[true, true, true, true, true, true, true, true, false, false, false, false, false, false, false, false, false, false, false] rfl rfl (by kernel_rfl) (fun _ _ _ h => h) (Or.inl ⟨by rfl, ?_⟩) ?_ ?_
      rotate_left
      · intro w'
        go_simp
        with_reducible rfl
      rotate_left
      · simp only [Act.put, List.setIfInBounds_toArray, List.set_cons_zero, List.set_cons_succ]
        rfl
      refine pure_ (i := 8) (N := some 130) (v := ?_) (a' := ?_) #[true, true, true, true, true, true, true, true, true, false, false, false, false, false, false, false, false, false, false] rfl rfl (by kernel_rfl) (fun _ _ _ h => h) (Or.inl ⟨by rfl, ?_⟩) ?_ ?_
      rotate_left
      · intro w'
        go_simp
        with_reducible rfl
      rotate_left
      · simp only [Act.put, List.setIfInBounds_toArray, List.set_cons_zero, List.set_cons_succ]
        rfl
      refine pure_ (i := 9) (N := some 131) (v := ?_) (a' := ?_) #[true, true, true, true, true, true, true, true, true, true, false, false, false, false, false, false, false, false, false] rfl rfl (by kernel_rfl) (fun _ _ _ h => h) (Or.inl ⟨by rfl, ?_⟩) ?_ ?_
      rotate_left
      · intro w'
        go_simp
        with_reducible rfl
      rotate_left
      · simp only [Act.put, List.setIfInBounds_toArray, List.set_cons_zero, List.set_cons_succ]
        rfl
      refine pure_ (i := 10) (N := some 132) (v := ?_) (a' := ?_) #[true, true, true, true, true, true, true, true, true, true, true, false, false, false, false, false, false, false, false] rfl rfl (by kernel_rfl) (fun _ _ _ h => h) (Or.inl ⟨by rfl, ?_⟩) ?_ ?_
      rotate_left
      · intro w'
        go_simp
        with_reducible rfl
      rotate_left
      · simp only [Act.put, List.setIfInBounds_toArray, List.set_cons_zero, List.set_cons_succ]
        rfl
      refine pure_ (i := 11) (N := some 133) (v := ?_) (a' := ?_) #[true, true, true, true, true, true, true, true, true, true, true, true, false, false, false, false, false, false, false] rfl rfl (by kernel_rfl) (fun _ _ _ h => h) (Or.inl ⟨by rfl, ?_⟩) ?_ ?_
      rotate_left
      · intro w'
        go_simp
        with_reducible rfl
      rotate_left
      · simp only [Act.put, List.setIfInBounds_toArray, List.set_cons_zero, List.set_cons_succ]
        rfl
      refine pure_ (i := 12) (N := some 134) (v := ?_) (a' := ?_) #[true, true, true, true, true, true, true, true, true, true, true, true, true, false, false, false, false, false, false] rfl rfl (by kernel_rfl) (fun _ _ _ h => h) (Or.inl ⟨by rfl, ?_⟩) ?_ ?_
      rotate_left
      · intro w'
        go_simp
        with_reducible rfl
      rotate_left
      · simp only [Act.put, List.setIfInBounds_toArray, List.set_cons_zero, List.set_cons_succ]
        rfl
      refine take_ (i := 13) (N := some 135) (v := ?_) (a' := ?_) #[true, true, true, true, true, true, true, true, true, true, true, true, true, true, false, false, false, false, false] rfl rfl (by kernel_rfl) (fun _ _ _ h => h) (Or.inl ⟨by rfl, ?_⟩) hHeld ?_ ?_
      rotate_left
      · intro w' hs'
        have hcv3 := conv_c (P := Tryd.prog) Tryd.underlying41 Tryd.underlying5 Tryd.underlying9 10 (grownCap w4 10 0 5) hlen hs'
        go_simp
        with_reducible rfl
      rotate_left
      · simp only [Act.put, List.setIfInBounds_toArray, List.set_cons_zero, List.set_cons_succ]
        rfl
      refine pure_ (i := 14) (N := some 136) (v := ?_) (a' := ?_) #[true, true, true, true, true, true, true, true, true, true, true, true, true, true, true, false, false, false, false] rfl rfl (by kernel_rfl) (fun _ _ _ h => h) (Or.inl ⟨by rfl, ?_⟩) ?_ ?_
      rotate_left
      · intro w'
        go_simp
        with_reducible rfl
      rotate_left
      · simp only [Act.put, List.setIfInBounds_toArray, List.set_cons_zero, List.set_cons_succ]
        rfl
      refine pure_ (i := 15) (N := some 137) (v := ?_) (a' := ?_) #[true, true, true, true, true, true, true, true, true, true, true, true, true, true, true, true, false, false, false] rfl rfl (by kernel_rfl) (fun _ _ _ h => h) (Or.inl ⟨by rfl, ?_⟩) ?_ ?_
      rotate_left
      · intro w'
        go_simp
        with_reducible rfl
      rotate_left
      · simp only [Act.put, List.setIfInBounds_toArray, List.set_cons_zero, List.set_cons_succ]
        rfl
      refine pure_ (i := 16) (N := some 138) (v := ?_) (a' := ?_) #[true, true, true, true, true, true, true, true, true, true, true, true, true, true, true, true, true, false, false] rfl rfl (by kernel_rfl) (fun _ _ _ h => h) (Or.inl ⟨by rfl, ?_⟩) ?_ ?_
      rotate_left
      · intro w'
        go_simp
        with_reducible rfl
      rotate_left
      · simp only [Act.put, List.setIfInBounds_toArray, List.set_cons_zero, List.set_cons_succ]
        rfl
      refine pure_ (i := 17) (N := some 139) (v := ?_) (a' := ?_) #[true, true, true, true, true, true, true, true, true, true, true, true, true, true, true, true, true, true, false] rfl rfl (by kernel_rfl) (fun _ _ _ h => h) (Or.inl ⟨by rfl, ?_⟩) ?_ ?_
      rotate_left
      · intro w'
        go_simp
        with_reducible rfl
      rotate_left
      · simp only [Act.put, List.setIfInBounds_toArray, List.set_cons_zero, List.set_cons_succ]
        rfl
      refine pure_ (i := 18) (N := some 8) (v := ?_) (a' := ?_) #[true, true, true, true, true, true, true, true, true, true, true, true, true, true, true, true, true, true, true] rfl rfl (by kernel_rfl) (fun _ _ _ h => h) (Or.inl ⟨by rfl, ?_⟩) ?_ ?_
      rotate_left
      · intro w'
        go_simp
        with_reducible rfl
      rotate_left
      · simp only [Act.put, List.setIfInBounds_toArray, List.set_cons_zero, List.set_cons_succ]
        rfl
      refine done_ (by kernel_rfl) ?_
      go_wp2
      go_ret
      exact ⟨by rw [HEQ.out, beq_self_eq_true]; rfl, hB9⟩
    · go_wp2
      go_ret
      exact ⟨rfl, hB7⟩
    · go_wp2
      go_ret
      exact ⟨rfl, hB7⟩
  · go_enter Tryd.func8, Tryd.ntmps8
    have hB := Below.refl w.heap.size w
    go_wp2_with fail
    refine (head_c _ hT).mono ?_
    rintro e w3 ⟨rfl, hb⟩
    replace hB := hB.trans (hb.mono hB.size)
    clear hb
    go_wp2_with fail
    refine (pick_c _ _ _ b10 b11 (by decide)).mono ?_
    rintro e w3 ⟨rfl, hb⟩
    replace hB := hB.trans (hb.mono hB.size)
    clear hb
    have hk := pk_range a1 36525 (by decide)
    generalize pk a1 36525 = k at *
    obtain ⟨k0, k1⟩ := hk
    have hsz := text_size k0 (by omega : k ≤ 36524)
    go_wp2_with fail
    refine (text_c _ _ (hT.below hB)).mono ?_
    rintro e w4 ⟨rfl, hb⟩
    replace hB := hB.trans (hb.mono hB.size)
    clear hb
    obtain ⟨s, hs⟩ : ∃ s, text k = s := ⟨_, rfl⟩
    rw [hs] at hsz ⊢
    have HS := Lib.hid hs
    clear hs
    have z1 : ((s.size : Int) != 10) = false := bne_eq_false_iff_eq.mpr (by omega)
    have hcv := Lib.run_convert_string_bytes (P := Tryd.prog) w4 9 41 5 s Tryd.underlying9 Tryd.underlying41 Tryd.underlying5
    go_wp2_with fail
    have hBb := Below.trans hB ((bytes_below w4 s 5).mono hB.size)
    refine (pick_c _ _ _ b20 b21 (by decide)).mono ?_
    rintro e w5 ⟨rfl, hb⟩
    have hj := pk_range a2 10 (by decide)
    obtain ⟨j, hj2⟩ : ∃ j : Nat, pk a2 10 = (j : Int) := ⟨(pk a2 10).toNat, by omega⟩
    rw [hj2] at hj ⊢
    obtain ⟨⟨v0, hcell⟩, hfree, hC, hlt⟩ := store_c hb j (by omega) a3
    replace hBb := hBb.trans (hb.mono hBb.size)
    have hle := hB.size
    have hB6 := hBb.setCell (p := ⟨w4.heap.size, j, none⟩) hle (.int .u8 a3)
    clear hb hBb hj2 hcv
    have hsz2 := chg_size s j a3
    rw [hsz] at hsz2
    have hlen : (chg s j a3).length = 10 := by rw [← strOfNums_size]; exact hsz2
    have hcv2 := conv_c (P := Tryd.prog) Tryd.underlying41 Tryd.underlying5 Tryd.underlying9 10 (grownCap w4 10 0 5) hlen hC
    go_wp2_with fail
    have hlt2 : w4.heap.size < (w5.setCell ⟨w4.heap.size, j, none⟩ (.int .u8 a3)).heap.size := by simpa using hlt
    clear hcell hfree hcv2
    generalize w5.setCell ⟨w4.heap.size, j, none⟩ (.int .u8 a3) = w6 at *
    generalize chg s j a3 = xs at *
    refine (CalB.parse_any (strOfNums xs) w6 (hT.below hB6)).mono ?_
    rintro e w7 ⟨rfl, hb⟩
    have hC7 := cells_below hC hb hlt2
    have hB7 := hB6.trans (hb.mono hB6.size)
    have hlt7 := Nat.lt_of_lt_of_le hlt2 hb.size
    clear hb hlt2 hB6 hC hlt
    have hno := parse_no (strOfNums xs)
    have htp := text_parse (strOfNums xs) hsz2
    generalize parse (strOfNums xs) = q at *
    obtain ⟨i, e⟩ := q
    dsimp only at hno htp
    rcases hno with rfl | ⟨rfl, rfl | rfl⟩
    · obtain ⟨i0, i1, hti⟩ := htp rfl
      have heq := text_eq i0 i1 k0 (by omega)
      rw [hti, HS.out] at heq
      have HEQ := Lib.hid heq
      clear heq htp
      go_wp2_with fail
      refine start_ (n := 19) (S := fun w' => Cells w' w4.heap.size xs) (ds := []) #[false, false, false, false, false, false, false, false, false, false, false, false, false, false, false, false, false, false, false] (by kernel_rfl) rfl rfl (fun i v hv => hC7 i v hv) (fun hHeld => ?_)
      have hB8 : Below w.heap.size w w7.drew := below_drew hB7
      have hlt8 : w4.heap.size < w7.drew.heap.size := hlt7
      generalize w7.drew = w8 at *
      refine pure_ (i := 0) (N := some 122) (v := ?_) (a' := ?_) #[true, false, false, false, false, false, false, false, false, false, false, false, false, false, false, false, false, false, false] rfl rfl (by kernel_rfl) (fun _ _ _ h => h) (Or.inl ⟨by rfl, ?_⟩) ?_ ?_
      rotate_left
      · intro w'
        go_simp
        with_reducible rfl
      rotate_left
      · simp only [Act.put, List.setIfInBounds_toArray, List.set_cons_zero, List.set_cons_succ]
        rfl
      refine pure_ (i := 1) (N := some 123) (v := ?_) (a' := ?_) #[true, true, false, false, false, false, false, false, false, false, false, false, false, false, false, false, false, false, false] rfl rfl (by kernel_rfl) (fun _ _ _ h => h) (Or.inl ⟨by rfl, ?_⟩) ?_ ?_
      rotate_left
      · intro w'
        go_simp
        with_reducible rfl
      rotate_left
      · simp only [Act.put, List.setIfInBounds_toArray, List.set_cons_zero, List.set_cons_succ]
        rfl
      refine pure_ (i := 2) (N := some 124) (v := ?_) (a' := ?_) #[true, true, true, false, false, false, false, false, false, false, false, false, false, false, false, false, false, false, false] rfl rfl (by kernel_rfl) (fun _ _ _ h => h) (Or.inl ⟨by rfl, ?_⟩) ?_ ?_
      rotate_left
      · intro w'
        go_simp
        with_reducible rfl
      rotate_left
      · simp only [Act.put, List.setIfInBounds_toArray, List.set_cons_zero, List.set_cons_succ]
        rfl
      refine pure_ (i := 4) (N := some 126) (v := ?_) (a' := ?_) #[true, true, true, false, true, false, false, false, false, false, false, false, false, false, false, false, false, false, false] rfl rfl (by kernel_rfl) (fun _ _ _ h => h) (Or.inl ⟨by rfl, ?_⟩) ?_ ?_
      rotate_left
      · intro w'
        go_simp
        with_reducible rfl
      rotate_left
      · simp only [Act.put, List.setIfInBounds_toArray, List.set_cons_zero, List.set_cons_succ]
        rfl
      refine take_ (i := 5) (N := some 127) (v := ?_) (a' := ?_) #[true, true, true, false, true, true, false, false, false, false, false, false, false, false, false, false, false, false, false] rfl rfl (by kernel_rfl) (fun _ _ _ h => h) (Or.inl ⟨by rfl, ?_⟩) hHeld ?_ ?_
      rotate_left
      · intro w' hs'
        have hcv3 := conv_c (P := Tryd.prog) Tryd.underlying41 Tryd.underlying5 Tryd.underlying9 10 (grownCap w4 10 0 5) hlen hs'
        go_simp
        with_reducible rfl
      rotate_left
      · simp only [Act.put, List.setIfInBounds_toArray, List.set_cons_zero, List.set_cons_succ]
        rfl
      refine one_ (i := 3) (N := some 125) #[true, true, true, true, true, true, false, false, false, false, false, false, false, false, false, false, false, false, false] rfl rfl (by kernel_rfl) (by decide) (fun K hK => ?_)
      refine goes_ Tryd.func19 (by kernel_rfl) rfl #[.int .i64 i] (by rfl) rfl rfl (by simp only [List.map_toArray, List.map_cons, List.map_nil]; rfl) ?_
      refine (textS_c i _ _ (hT.below hB8) hti).mono ?_
      rintro e w9 ⟨rfl, hb⟩
      refine ⟨_, rfl, ?_⟩
      replace hB9 := hB8.trans (hb.mono hB8.size)
      refine hK.out _ _ (cells_below hHeld hb hlt8) (fun hHeld => ?_)
      clear hK K
      refine norm_ (a' := ?_) ?_ ?_
      rotate_left
      · show Act.put _ (some 125) _ = _
        simp only [Act.put, List.setIfInBounds_toArray, List.set_cons_zero, List.set_cons_succ]
        rfl
      refine pure_ (i := 6) (N := some 128) (v := ?_) (a' := ?_) #[true, true, true, true, true, true, true, false, false, false, false, false, false, false, false, false, false, false, false] rfl rfl (by kernel_rfl) (fun _ _ _ h => h) (Or.inl ⟨by rfl, ?_⟩) ?_ ?_
      rotate_left
      · intro w'
        go_simp
        (try rw [beq_self_eq_true])
        with_reducible rfl
      rotate_left
      · simp only [Act.put, List.setIfInBounds_toArray, List.set_cons_zero, List.set_cons_succ]
        rfl
      refine pure_ (i := 7) (N := some 129) (v := ?_) (a' := ?_) #[true, true, true, true, true, true, true, true, false, false, false, false, false, false, false, false, false, false, false] rfl rfl (by kernel_rfl) (fun _ _ _ h => h) (Or.inl ⟨by rfl, ?_⟩) ?_ ?_
      rotate_left
      · intro w'
        go_simp
        with_reducible rfl
      rotate_left
      · simp only [Act.put, List.setIfInBounds_toArray, List.set_cons_zero, List.set_cons_succ]
        rfl
      refine pure_ (i := 8) (N := some 130) (v := ?_) (a' := ?_) #[true, true, true, true, true, true, true, true, true, false, false, false, false, false, false, false, false, false, false] rfl rfl (by kernel_rfl) (fun _ _ _ h => h) (Or.inl ⟨by rfl, ?_⟩) ?_ ?_
      rotate_left
      · intro w'
        go_simp
        with_reducible rfl
      rotate_left
      · simp only [Act.put, List.setIfInBounds_toArray, List.set_cons_zero, List.set_cons_succ]
        rfl
      refine pure_ (i := 9) (N := some 131) (v := ?_) (a' := ?_) #[true, true, true, true, true, true, true, true, true, true, false, false, false, false, false, false, false, false, false] rfl rfl (by kernel_rfl) (fun _ _ _ h => h) (Or.inl ⟨by rfl, ?_⟩) ?_ ?_
      rotate_left
      · intro w'
        go_simp
        with_reducible rfl
      rotate_left
      · simp only [Act.put, List.setIfInBounds_toArray, List.set_cons_zero, List.set_cons_succ]
        rfl
      refine pure_ (i := 10) (N := some 132) (v := ?_) (a' := ?_) #[true, true, true, true, true, true, true, true, true, true, true, false, false, false, false, false, false, false, false] rfl rfl (by kernel_rfl) (fun _ _ _ h => h) (Or.inl ⟨by rfl, ?_⟩) ?_ ?_
      rotate_left
      · intro w'
        go_simp
        with_reducible rfl
      rotate_left
      · simp only [Act.put, List.setIfInBounds_toArray, List.set_cons_zero, List.set_cons_succ]
        rfl
      refine pure_ (i := 11) (N := some 133) (v := ?_) (a' := ?_) #[true, true, true, true, true, true, true, true, true, true, true, true, false, false, false, false, false, false, false] rfl rfl (by kernel_rfl) (fun _ _ _ h => h) (Or.inl ⟨by rfl, ?_⟩) ?_ ?_
      rotate_left
      · intro w'
        go_simp
        with_reducible rfl
      rotate_left
      · simp only [Act.put, List.setIfInBounds_toArray, List.set_cons_zero, List.set_cons_succ]
        rfl
      refine pure_ (i := 12) (N := some 134) (v := ?_) (a' := ?_) #[true, true, true, true, true, true, true, true, true, true, true, true, true, false, false, false, false, false, false] rfl rfl (by kernel_rfl) (fun _ _ _ h => h) (Or.inl ⟨by rfl, ?_⟩) ?_ ?_
      rotate_left
      · intro w'
        go_simp
        with_reducible rfl
      rotate_left
      · simp only [Act.put, List.setIfInBounds_toArray, List.set_cons_zero, List.set_cons_succ]
        rfl
      refine take_ (i := 13) (N := some 135) (v := ?_) (a' := ?_) #[true, true, true, true, true, true, true, true, true, true, true, true, true, true, false, false, false, false, false] rfl rfl (by kernel_rfl) (fun _ _ _ h => h) (Or.inl ⟨by rfl, ?_⟩) hHeld ?_ ?_
      rotate_left
      · intro w' hs'
        have hcv3 := conv_c (P := Tryd.prog) Tryd.underlying41 Tryd.underlying5 Tryd.underlying9 10 (grownCap w4 10 0 5) hlen hs'
        go_simp
        with_reducible rfl
      rotate_left
      · simp only [Act.put, List.setIfInBounds_toArray, List.set_cons_zero, List.set_cons_succ]
        rfl
      refine pure_ (i := 14) (N := some 136) (v := ?_) (a' := ?_) #[true, true, true, true, true, true, true, true, true, true, true, true, true, true, true, false, false, false, false] rfl rfl (by kernel_rfl) (fun _ _ _ h => h) (Or.inl ⟨by rfl, ?_⟩) ?_ ?_
      rotate_left
      · intro w'
        go_simp
        with_reducible rfl
      rotate_left
      · simp only [Act.put, List.setIfInBounds_toArray, List.set_cons_zero, List.set_cons_succ]
        rfl
      refine pure_ (i := 15) (N := some 137) (v := ?_) (a' := ?_) #[true, true, true, true, true, true, true, true, true, true, true, true, true, true, true, true, false, false, false] rfl rfl (by kernel_rfl) (fun _ _ _ h => h) (Or.inl ⟨by rfl, ?_⟩) ?_ ?_
      rotate_left
      · intro w'
        go_simp
        with_reducible rfl
      rotate_left
      · simp only [Act.put, List.setIfInBounds_toArray, List.set_cons_zero, List.set_cons_succ]
        rfl
      refine pure_ (i := 16) (N := some 138) (v := ?_) (a' := ?_) #[true, true, true, true, true, true, true, true, true, true, true, true, true, true, true, true, true, false, false] rfl rfl (by kernel_rfl) (fun _ _ _ h => h) (Or.inl ⟨by rfl, ?_⟩) ?_ ?_
      rotate_left
      · intro w'
        go_simp
        with_reducible rfl
      rotate_left
      · simp only [Act.put, List.setIfInBounds_toArray, List.set_cons_zero, List.set_cons_succ]
        rfl
      refine pure_ (i := 17) (N := some 139) (v := ?_) (a' := ?_) #[true, true, true, true, true, true, true, true, true, true, true, true, true, true, true, true, true, true, false] rfl rfl (by kernel_rfl) (fun _ _ _ h => h) (Or.inl ⟨by rfl, ?_⟩) ?_ ?_
      rotate_left
      · intro w'
        go_simp
        with_reducible rfl
      rotate_left
      · simp only [Act.put, List.setIfInBounds_toArray, List.set_cons_zero, List.set_cons_succ]
        rfl
      refine pure_ (i := 18) (N := some 8) (v := ?_) (a' := ?_) #[true, true, true, true, true, true, true, true, true, true, true, true, true, true, true, true, true, true, true] rfl rfl (by kernel_rfl) (fun _ _ _ h => h) (Or.inl ⟨by rfl, ?_⟩) ?_ ?_
      rotate_left
      · intro w'
        go_simp
        with_reducible rfl
      rotate_left
      · simp only [Act.put, List.setIfInBounds_toArray, List.set_cons_zero, List.set_cons_succ]
        rfl
      refine done_ (by kernel_rfl) ?_
      go_wp2
      go_ret
      exact ⟨by rw [HEQ.out, beq_self_eq_true]; rfl, hB9⟩
    · go_wp2
      go_ret
      exact ⟨rfl, hB7⟩
    · go_wp2
      go_ret
      exact ⟨rfl, hB7⟩
theorem wageofficelaw02_CalendarOutside.calls (a0 : Int) (a1 : Int) (a2 : Int) (a3 : Int) (r : Bool) (w : World) (h : wageofficelaw02_CalendarOutside.f a0 a1 a2 a3 = some r) (hTBefore0 : TabBefore w) :
    Calls Tryd.prog 8 #[.int .i64 a0, .int .i64 a1, .int .i64 a2, .int .u8 a3] w fun e w' => e = .returned (.bool r) ∧ Below w.heap.size w w' := by
  unfold wageofficelaw02_CalendarOutside.f at h
  split at h
  · rename_i hc
    obtain ⟨h1, h2⟩ := hc
    cases h
    exact outside_any a0 a1 a2 a3 w (i64ok_of h1).1 (i64ok_of h1).2 (i64ok_of h2).1 (i64ok_of h2).2 hTBefore0
  · cases h
end Go.Proofs.YthakhcnpiobpgaaDoor.PAll
