/- The reference's Right, bit and Extract (layer 27) walked: they compute what the program's isRight, proveBit and Extract do. Their contracts in the printed form. -/
import Derived.Test.YtnlgnmlobklobaaDoorRfL
-- HALF the printed indentation
set_option linter.unusedSimpArgs false
set_option linter.unusedVariables false
set_option maxRecDepth 100000
namespace Go.Proofs.YtnlgnmlobklobaaDoor.Com
open Go.RowKit Go.Shelf Go.Proofs.YtnlgnmlobklobaaDoor Go.Proofs.YtnlgnmlobklobaaDoor.PAll Go.Proofs.YtnlgnmlobklobaaDoor.RfL Go.Proofs.YtnlgnmlobklobaaDoor.Stub Go.Proofs.YtnlgnmlobklobaaDoorW.PrintWords Go.Proofs.YtnlgnmlobklobaaDoorW.PrintMore
theorem chal_range (a b c : Int) : 0 ≤ chal a b c ∧ chal a b c < 1073741789 := Hash.hsh_range _ _
theorem one_step {w W W' : World} {x : Obj} {n : Nat} (hbk : W.heap[n]? = some x) (hB : Below n w W) (hl : n < W.heap.size) (hb : Below W.heap.size W W') : W'.heap[n]? = some x ∧ Below n w W' ∧ n < W'.heap.size :=
 ⟨(hb.block _ hl).trans hbk, hB.trans (hb.mono (Nat.le_of_lt hl)), Nat.lt_of_lt_of_le hl hb.size⟩
theorem dr {w w' : World} (h : Drawn0 w w') : Below w.heap.size w w' := by
 obtain ⟨n, rfl⟩ := h
 exact pw_below_drewN (Below.refl _ _) n
theorem refE (n : Int) (w : World) : Calls Tryd.prog 59 #[.int .i64 n] w fun r w' => r = .returned (.bool (elB n)) ∧ Below w.heap.size w w' :=
 (wageofficeref26_Element.calls 70 n _ w (Element_eq n 70 (by decide))).mono fun _ _ h => ⟨h.1, dr h.2⟩
theorem refN (n : Int) (w : World) : Calls Tryd.prog 26 #[.int .i64 n] w fun r w' => r = .returned (.bool (nuB n)) ∧ Below w.heap.size w w' :=
 (wageofficeref27_number.calls n _ w (number_eq n)).mono fun _ _ h => ⟨h.1, dr h.2⟩
theorem refP (b e : Int) (h : 0 ≤ b ∧ b < 2147483579 ∧ 0 ≤ e ∧ e ≤ 9223372036854775807) (w : World) : Calls Tryd.prog 54 #[.int .i64 b, .int .i64 e] w fun r w' => r = .returned (.int .i64 (pwI b e)) ∧ Below w.heap.size w w' := by
 have := wageofficeref26_Power.calls 70 b e _ w (Power_eq b e h.2.2.2 70 (by decide))
 rw [powF_in ⟨h.1, h.2.1, h.2.2.1⟩] at this
 exact this.mono fun _ _ h => ⟨h.1, dr h.2⟩
theorem refS0 (c : Int) (w : World) : Calls Tryd.prog 56 #[.int .i64 c, .int .i64 0] w fun r w' => r = .returned (.int .i64 c) ∧ Below w.heap.size w w' :=
 (wageofficeref27_shifted.calls 70 c 0 _ w (shifted0 c 70)).mono fun _ _ h => ⟨h.1, dr h.2⟩
theorem refS1 (c : Int) (hc : 0 ≤ c ∧ c < 2147483579) (w : World) : Calls Tryd.prog 56 #[.int .i64 c, .int .i64 1] w fun r w' => r = .returned (.int .i64 (mulI c (invI 4))) ∧ Below w.heap.size w w' :=
 (wageofficeref27_shifted.calls 70 c 1 _ w (shifted1 c hc 70 (by decide))).mono fun _ _ h => ⟨h.1, dr h.2⟩
theorem refT (a b : Int) (h : 0 ≤ a ∧ a < 2147483579 ∧ 0 ≤ b ∧ b < 2147483579) (w : World) : Calls Tryd.prog 53 #[.int .i64 a, .int .i64 b] w fun r w' => r = .returned (.int .i64 (mulI a b)) ∧ Below w.heap.size w w' :=
 (wageofficeref27_times.calls a b _ w (times_eq a b ⟨h.1, h.2.1⟩ h.2.2)).mono fun _ _ h => ⟨h.1, dr h.2⟩
theorem refI (a : Int) (h : 0 ≤ a ∧ a < 2147483579) (w : World) : Calls Tryd.prog 55 #[.int .i64 a] w fun r w' => r = .returned (.int .i64 (invI a)) ∧ Below w.heap.size w w' :=
 (wageofficeref27_inverse.calls 70 a _ w (inverse_eq a h 70 (by decide))).mono fun _ _ h => ⟨h.1, dr h.2⟩
theorem refC (v r : Int) (w : World) : Calls Tryd.prog 52 #[.int .i64 v, .int .i64 r] w fun e w' => e = .returned (.tuple #[.int .i64 (comI v r).1, .int .i64 (comI v r).2]) ∧ Below w.heap.size w w' :=
 (wageofficeref26_Commit.calls 80 v r _ _ w (Commit_eq v r 80 (by decide))).mono fun _ _ h => ⟨h.1, dr h.2⟩
theorem refR (seed : ByteArray) (hs : seed.size ≤ 1000000) (i j : Int) (hi : 0 ≤ i ∧ i ≤ 9223372036854775807) (hj : 0 ≤ j ∧ j ≤ 9223372036854775807) (w : World) :
  Calls Tryd.prog 28 #[.string seed, .int .i64 i, .int .i64 j] w fun r w' => r = .returned (.int .i64 (Hash.hsh seed [i, j])) ∧ Below w.heap.size w w' :=
 wageofficeref27_random.calls (seed.size + 100) seed i j _ w (random_eq seed hs i j hi hj _ (Nat.le_refl _))
theorem refCh (a b c : Int) (ha : 0 ≤ a ∧ a < 2147483579) (hb : 0 ≤ b ∧ b < 2147483579) (hc : 0 ≤ c ∧ c < 2147483579) (w : World) :
  Calls Tryd.prog 57 #[.int .i64 a, .int .i64 b, .int .i64 c] w fun r w' => r = .returned (.int .i64 (chal a b c)) ∧ Below w.heap.size w w' :=
 wageofficeref27_challenge.calls 200 a b c _ w (chal_eq a b c (by omega) (by omega) (by omega) 200 (by decide))
theorem refQ (b e : Int) (h : 0 ≤ b ∧ b < 1073741789 ∧ 0 ≤ e ∧ e ≤ 9223372036854775807) (w : World) : Calls Tryd.prog 33 #[.int .i64 b, .int .i64 e] w fun r w' => r = .returned (.int .i64 (pq e.toNat b)) ∧ Below w.heap.size w w' :=
 (wageofficeref27_powerQ.calls 70 b e _ w (powerQ_eq b e ⟨h.1, h.2.1⟩ h.2.2 70 (by decide))).mono fun _ _ h => ⟨h.1, dr h.2⟩
set_option maxHeartbeats 4000000 in
theorem ref_right (c f0 f1 c0 c1 r0 r1 : Int) (w : World) : Calls Tryd.prog 32 #[.agg #[.int .i64 c, .int .i64 f0, .int .i64 f1, .int .i64 c0, .int .i64 c1, .int .i64 r0, .int .i64 r1]] w fun r w' => r = .returned (.bool (rightB ⟨c, f0, f1, c0, c1, r0, r1⟩)) ∧ Below w.heap.size w w' := by
 have i0 := refE c
 have hB := (Below.refl w.heap.size w).alloc (Nat.le_refl _) (.cells #[.int .i64 c, .int .i64 f0, .int .i64 f1, .int .i64 c0, .int .i64 c1, .int .i64 r0, .int .i64 r1] 25)
 have hbk := Rf.alloc_new w (.cells #[.int .i64 c, .int .i64 f0, .int .i64 f1, .int .i64 c0, .int .i64 c1, .int .i64 r0, .int .i64 r1] 25) rfl
 have hl : w.heap.size < (w.alloc (.cells #[.int .i64 c, .int .i64 f0, .int .i64 f1, .int .i64 c0, .int .i64 c1, .int .i64 r0, .int .i64 r1] 25)).heap.size := by simp
 obtain ⟨d0, d1, d2, d3, d4, d5, d6⟩ := cells8 hbk
 by_cases hc : elB c = true
 ·have hcr := elB_range hc
  go_enter Tryd.func32, Tryd.ntmps32
  go_wp2_with (first | (go_at_call 59; refine (refE _ _).mono ?_; rintro r w3 ⟨rfl, hb3⟩; have T := one_step hbk hB hl hb3; clear hbk hB hl hb3 d0 d1 d2 d3 d4 d5 d6; obtain ⟨hbk, hB, hl⟩ := T; obtain ⟨d0, d1, d2, d3, d4, d5, d6⟩ := cells8 hbk; skip) | (go_at_call 26; refine (refN _ _).mono ?_; rintro r w4 ⟨rfl, hb4⟩; have T := one_step hbk hB hl hb4; clear hbk hB hl hb4 d0 d1 d2 d3 d4 d5 d6; obtain ⟨hbk, hB, hl⟩ := T; obtain ⟨d0, d1, d2, d3, d4, d5, d6⟩ := cells8 hbk; skip))
  go_loopw [3] (fun v wr => ((v = .int .i64 0) ∨ (v = .int .i64 1 ∧ sideB c f0 c0 r0 = true) ∨ (v = .int .i64 2 ∧ sideB c f0 c0 r0 = true ∧ sideB (mulI c (invI 4)) f1 c1 r1 = true)) ∧ Below w.heap.size w wr ∧
   wr.heap[w.heap.size]? = some (.cells #[.int .i64 c, .int .i64 f0, .int .i64 f1, .int .i64 c0, .int .i64 c1, .int .i64 r0, .int .i64 r1] 25 (0, 0))) (fun v _ => 2 - (intOf v).toNat)
  case atStart => exact ⟨.inl rfl, hB, hbk⟩
  case round =>
   clear d0 d1 d2 d3 d4 d5 d6 hB hbk hl i0
   obtain ⟨hv, hB, hbk⟩ := hrel
   obtain ⟨d0, d1, d2, d3, d4, d5, d6⟩ := cells8 hbk
   have hl := (Array.getElem?_eq_some_iff.1 hbk).1
   rcases hv with rfl | ⟨rfl, hs0⟩ | ⟨rfl, hs0, hs1⟩
   ·by_cases h1 : elB f0 = true
    ·by_cases h2 : nuB c0 = true
     ·by_cases h3 : nuB r0 = true
      ·go_wp2_with (first | (go_at_call 59; refine (refE _ _).mono ?_; rintro r w3 ⟨rfl, hb3⟩; have T := one_step hbk hB hl hb3; clear hbk hB hl hb3 d0 d1 d2 d3 d4 d5 d6; obtain ⟨hbk, hB, hl⟩ := T; obtain ⟨d0, d1, d2, d3, d4, d5, d6⟩ := cells8 hbk; skip) | (go_at_call 26; refine (refN _ _).mono ?_; rintro r w4 ⟨rfl, hb4⟩; have T := one_step hbk hB hl hb4; clear hbk hB hl hb4 d0 d1 d2 d3 d4 d5 d6; obtain ⟨hbk, hB, hl⟩ := T; obtain ⟨d0, d1, d2, d3, d4, d5, d6⟩ := cells8 hbk; skip))
       replace hB := hB.drew
       obtain ⟨z1, z2⟩ := elB_range h1
       obtain ⟨z3, z4⟩ := nuB_range h2
       obtain ⟨z5, z6⟩ := nuB_range h3
       obtain ⟨z7, z8⟩ := hcr
       go_region_held3 (fun W' => W'.cell? ⟨w.heap.size, 0, none⟩ = some (.int .i64 c) ∧ W'.cell? ⟨w.heap.size, 1, none⟩ = some (.int .i64 f0) ∧ W'.cell? ⟨w.heap.size, 3, none⟩ = some (.int .i64 c0) ∧ W'.cell? ⟨w.heap.size, 5, none⟩ = some (.int .i64 r0)) (first | go_keep | (exact ⟨d0, d1, d3, d5⟩))
        (first | (go_at_call 54; refine (refP _ _ (by omega) _).mono ?_; rintro e w5 ⟨rfl, hb5⟩; replace d0 := (hb5.cell (p := ⟨w.heap.size, 0, none⟩) (by exact hl)).trans d0; replace d1 := (hb5.cell (p := ⟨w.heap.size, 1, none⟩) (by exact hl)).trans d1; replace d3 := (hb5.cell (p := ⟨w.heap.size, 3, none⟩) (by exact hl)).trans d3; replace d5 := (hb5.cell (p := ⟨w.heap.size, 5, none⟩) (by exact hl)).trans d5; replace hbk := (hb5.block _ (by exact hl)).trans hbk; replace hB := hB.trans (hb5.mono hB.size); replace hl := Nat.lt_of_lt_of_le hl hb5.size) | (go_at_call 56; refine (refS0 c _).mono ?_; rintro e w5 ⟨rfl, hb5⟩; replace d0 := (hb5.cell (p := ⟨w.heap.size, 0, none⟩) (by exact hl)).trans d0; replace d1 := (hb5.cell (p := ⟨w.heap.size, 1, none⟩) (by exact hl)).trans d1; replace d3 := (hb5.cell (p := ⟨w.heap.size, 3, none⟩) (by exact hl)).trans d3; replace d5 := (hb5.cell (p := ⟨w.heap.size, 5, none⟩) (by exact hl)).trans d5; replace hbk := (hb5.block _ (by exact hl)).trans hbk; replace hB := hB.trans (hb5.mono hB.size); replace hl := Nat.lt_of_lt_of_le hl hb5.size) | (go_at_call 53; refine (refT _ _ ⟨z1, z2, (pwI_range _ _).1, (pwI_range _ _).2⟩ _).mono ?_; rintro e w5 ⟨rfl, hb5⟩; replace d0 := (hb5.cell (p := ⟨w.heap.size, 0, none⟩) (by exact hl)).trans d0; replace d1 := (hb5.cell (p := ⟨w.heap.size, 1, none⟩) (by exact hl)).trans d1; replace d3 := (hb5.cell (p := ⟨w.heap.size, 3, none⟩) (by exact hl)).trans d3; replace d5 := (hb5.cell (p := ⟨w.heap.size, 5, none⟩) (by exact hl)).trans d5; replace hbk := (hb5.block _ (by exact hl)).trans hbk; replace hB := hB.trans (hb5.mono hB.size); replace hl := Nat.lt_of_lt_of_le hl hb5.size))
       obtain ⟨X, hX⟩ : ∃ X, pwI 9 r0 = X := ⟨_, rfl⟩
       obtain ⟨Y, hY⟩ : ∃ Y, mulI f0 (pwI c c0) = Y := ⟨_, rfl⟩
       rw [hX, hY]
       by_cases hxy : X = Y
       ·have hs : sideB c f0 c0 r0 = true := by unfold sideB; rw [h1, h2, h3, hX, hY, hxy]; simp
        have HS := Lib.hid hs
        clear hs hX hY
        subst hxy
        go_wp2
        exact ⟨⟨.inr (.inl ⟨rfl, HS.out⟩), hB, hbk⟩, by simp [intOf]⟩
       ·have E := Lib.hid (show rightB ⟨c, f0, f1, c0, c1, r0, r1⟩ = false by unfold rightB sideB; dsimp only; rw [hX, hY]; simp [hxy])
        clear hX hY
        go_wp2
        go_ret
        exact ⟨by rw [E.out]; rfl, hB⟩
      ·have h3' : nuB r0 = false := by simpa using h3
       have E := Lib.hid (show rightB ⟨c, f0, f1, c0, c1, r0, r1⟩ = false by unfold rightB sideB; dsimp only; simp [h3'])
       go_wp2_with (first | (go_at_call 59; refine (refE _ _).mono ?_; rintro r w3 ⟨rfl, hb3⟩; have T := one_step hbk hB hl hb3; clear hbk hB hl hb3 d0 d1 d2 d3 d4 d5 d6; obtain ⟨hbk, hB, hl⟩ := T; obtain ⟨d0, d1, d2, d3, d4, d5, d6⟩ := cells8 hbk; skip) | (go_at_call 26; refine (refN _ _).mono ?_; rintro r w4 ⟨rfl, hb4⟩; have T := one_step hbk hB hl hb4; clear hbk hB hl hb4 d0 d1 d2 d3 d4 d5 d6; obtain ⟨hbk, hB, hl⟩ := T; obtain ⟨d0, d1, d2, d3, d4, d5, d6⟩ := cells8 hbk; skip))
       go_ret
       exact ⟨by rw [E.out]; rfl, hB⟩
     ·have h2' : nuB c0 = false := by simpa using h2
      have E := Lib.hid (show rightB ⟨c, f0, f1, c0, c1, r0, r1⟩ = false by unfold rightB sideB; dsimp only; simp [h2'])
      go_wp2_with (first | (go_at_call 59; refine (refE _ _).mono ?_; rintro r w3 ⟨rfl, hb3⟩; have T := one_step hbk hB hl hb3; clear hbk hB hl hb3 d0 d1 d2 d3 d4 d5 d6; obtain ⟨hbk, hB, hl⟩ := T; obtain ⟨d0, d1, d2, d3, d4, d5, d6⟩ := cells8 hbk; skip) | (go_at_call 26; refine (refN _ _).mono ?_; rintro r w4 ⟨rfl, hb4⟩; have T := one_step hbk hB hl hb4; clear hbk hB hl hb4 d0 d1 d2 d3 d4 d5 d6; obtain ⟨hbk, hB, hl⟩ := T; obtain ⟨d0, d1, d2, d3, d4, d5, d6⟩ := cells8 hbk; skip))
      go_ret
      exact ⟨by rw [E.out]; rfl, hB⟩
    ·have h1' : elB f0 = false := by simpa using h1
     have E := Lib.hid (show rightB ⟨c, f0, f1, c0, c1, r0, r1⟩ = false by unfold rightB sideB; dsimp only; simp [h1'])
     go_wp2_with (first | (go_at_call 59; refine (refE _ _).mono ?_; rintro r w3 ⟨rfl, hb3⟩; have T := one_step hbk hB hl hb3; clear hbk hB hl hb3 d0 d1 d2 d3 d4 d5 d6; obtain ⟨hbk, hB, hl⟩ := T; obtain ⟨d0, d1, d2, d3, d4, d5, d6⟩ := cells8 hbk; skip) | (go_at_call 26; refine (refN _ _).mono ?_; rintro r w4 ⟨rfl, hb4⟩; have T := one_step hbk hB hl hb4; clear hbk hB hl hb4 d0 d1 d2 d3 d4 d5 d6; obtain ⟨hbk, hB, hl⟩ := T; obtain ⟨d0, d1, d2, d3, d4, d5, d6⟩ := cells8 hbk; skip))
     go_ret
     exact ⟨by rw [E.out]; rfl, hB⟩
   ·by_cases h1 : elB f1 = true
    ·by_cases h2 : nuB c1 = true
     ·by_cases h3 : nuB r1 = true
      ·go_wp2_with (first | (go_at_call 59; refine (refE _ _).mono ?_; rintro r w3 ⟨rfl, hb3⟩; have T := one_step hbk hB hl hb3; clear hbk hB hl hb3 d0 d1 d2 d3 d4 d5 d6; obtain ⟨hbk, hB, hl⟩ := T; obtain ⟨d0, d1, d2, d3, d4, d5, d6⟩ := cells8 hbk; skip) | (go_at_call 26; refine (refN _ _).mono ?_; rintro r w4 ⟨rfl, hb4⟩; have T := one_step hbk hB hl hb4; clear hbk hB hl hb4 d0 d1 d2 d3 d4 d5 d6; obtain ⟨hbk, hB, hl⟩ := T; obtain ⟨d0, d1, d2, d3, d4, d5, d6⟩ := cells8 hbk; skip))
       replace hB := hB.drew
       obtain ⟨z1, z2⟩ := elB_range h1
       obtain ⟨z3, z4⟩ := nuB_range h2
       obtain ⟨z5, z6⟩ := nuB_range h3
       obtain ⟨z7, z8⟩ := mulI_range c (invI 4)
       go_region_held3 (fun W' => W'.cell? ⟨w.heap.size, 0, none⟩ = some (.int .i64 c) ∧ W'.cell? ⟨w.heap.size, 2, none⟩ = some (.int .i64 f1) ∧ W'.cell? ⟨w.heap.size, 4, none⟩ = some (.int .i64 c1) ∧ W'.cell? ⟨w.heap.size, 6, none⟩ = some (.int .i64 r1)) (first | go_keep | (exact ⟨d0, d2, d4, d6⟩))
        (first | (go_at_call 54; refine (refP _ _ (by omega) _).mono ?_; rintro e w5 ⟨rfl, hb5⟩; replace d0 := (hb5.cell (p := ⟨w.heap.size, 0, none⟩) (by exact hl)).trans d0; replace d2 := (hb5.cell (p := ⟨w.heap.size, 2, none⟩) (by exact hl)).trans d2; replace d4 := (hb5.cell (p := ⟨w.heap.size, 4, none⟩) (by exact hl)).trans d4; replace d6 := (hb5.cell (p := ⟨w.heap.size, 6, none⟩) (by exact hl)).trans d6; replace hbk := (hb5.block _ (by exact hl)).trans hbk; replace hB := hB.trans (hb5.mono hB.size); replace hl := Nat.lt_of_lt_of_le hl hb5.size) | (go_at_call 56; refine (refS1 c hcr _).mono ?_; rintro e w5 ⟨rfl, hb5⟩; replace d0 := (hb5.cell (p := ⟨w.heap.size, 0, none⟩) (by exact hl)).trans d0; replace d2 := (hb5.cell (p := ⟨w.heap.size, 2, none⟩) (by exact hl)).trans d2; replace d4 := (hb5.cell (p := ⟨w.heap.size, 4, none⟩) (by exact hl)).trans d4; replace d6 := (hb5.cell (p := ⟨w.heap.size, 6, none⟩) (by exact hl)).trans d6; replace hbk := (hb5.block _ (by exact hl)).trans hbk; replace hB := hB.trans (hb5.mono hB.size); replace hl := Nat.lt_of_lt_of_le hl hb5.size) | (go_at_call 53; refine (refT _ _ ⟨z1, z2, (pwI_range _ _).1, (pwI_range _ _).2⟩ _).mono ?_; rintro e w5 ⟨rfl, hb5⟩; replace d0 := (hb5.cell (p := ⟨w.heap.size, 0, none⟩) (by exact hl)).trans d0; replace d2 := (hb5.cell (p := ⟨w.heap.size, 2, none⟩) (by exact hl)).trans d2; replace d4 := (hb5.cell (p := ⟨w.heap.size, 4, none⟩) (by exact hl)).trans d4; replace d6 := (hb5.cell (p := ⟨w.heap.size, 6, none⟩) (by exact hl)).trans d6; replace hbk := (hb5.block _ (by exact hl)).trans hbk; replace hB := hB.trans (hb5.mono hB.size); replace hl := Nat.lt_of_lt_of_le hl hb5.size))
       obtain ⟨X, hX⟩ : ∃ X, pwI 9 r1 = X := ⟨_, rfl⟩
       obtain ⟨Y, hY⟩ : ∃ Y, mulI f1 (pwI (mulI c (invI 4)) c1) = Y := ⟨_, rfl⟩
       rw [hX, hY]
       by_cases hxy : X = Y
       ·have hs : sideB (mulI c (invI 4)) f1 c1 r1 = true := by unfold sideB; rw [h1, h2, h3, hX, hY, hxy]; simp
        have HS := Lib.hid hs
        clear hs hX hY
        subst hxy
        go_wp2
        exact ⟨⟨.inr (.inr ⟨rfl, hs0, HS.out⟩), hB, hbk⟩, by simp [intOf]⟩
       ·have E := Lib.hid (show rightB ⟨c, f0, f1, c0, c1, r0, r1⟩ = false by unfold rightB sideB; dsimp only; rw [hX, hY]; simp [hxy])
        clear hX hY
        go_wp2
        go_ret
        exact ⟨by rw [E.out]; rfl, hB⟩
      ·have h3' : nuB r1 = false := by simpa using h3
       have E := Lib.hid (show rightB ⟨c, f0, f1, c0, c1, r0, r1⟩ = false by unfold rightB sideB; dsimp only; simp [h3'])
       go_wp2_with (first | (go_at_call 59; refine (refE _ _).mono ?_; rintro r w3 ⟨rfl, hb3⟩; have T := one_step hbk hB hl hb3; clear hbk hB hl hb3 d0 d1 d2 d3 d4 d5 d6; obtain ⟨hbk, hB, hl⟩ := T; obtain ⟨d0, d1, d2, d3, d4, d5, d6⟩ := cells8 hbk; skip) | (go_at_call 26; refine (refN _ _).mono ?_; rintro r w4 ⟨rfl, hb4⟩; have T := one_step hbk hB hl hb4; clear hbk hB hl hb4 d0 d1 d2 d3 d4 d5 d6; obtain ⟨hbk, hB, hl⟩ := T; obtain ⟨d0, d1, d2, d3, d4, d5, d6⟩ := cells8 hbk; skip))
       go_ret
       exact ⟨by rw [E.out]; rfl, hB⟩
     ·have h2' : nuB c1 = false := by simpa using h2
      have E := Lib.hid (show rightB ⟨c, f0, f1, c0, c1, r0, r1⟩ = false by unfold rightB sideB; dsimp only; simp [h2'])
      go_wp2_with (first | (go_at_call 59; refine (refE _ _).mono ?_; rintro r w3 ⟨rfl, hb3⟩; have T := one_step hbk hB hl hb3; clear hbk hB hl hb3 d0 d1 d2 d3 d4 d5 d6; obtain ⟨hbk, hB, hl⟩ := T; obtain ⟨d0, d1, d2, d3, d4, d5, d6⟩ := cells8 hbk; skip) | (go_at_call 26; refine (refN _ _).mono ?_; rintro r w4 ⟨rfl, hb4⟩; have T := one_step hbk hB hl hb4; clear hbk hB hl hb4 d0 d1 d2 d3 d4 d5 d6; obtain ⟨hbk, hB, hl⟩ := T; obtain ⟨d0, d1, d2, d3, d4, d5, d6⟩ := cells8 hbk; skip))
      go_ret
      exact ⟨by rw [E.out]; rfl, hB⟩
    ·have h1' : elB f1 = false := by simpa using h1
     have E := Lib.hid (show rightB ⟨c, f0, f1, c0, c1, r0, r1⟩ = false by unfold rightB sideB; dsimp only; simp [h1'])
     go_wp2_with (first | (go_at_call 59; refine (refE _ _).mono ?_; rintro r w3 ⟨rfl, hb3⟩; have T := one_step hbk hB hl hb3; clear hbk hB hl hb3 d0 d1 d2 d3 d4 d5 d6; obtain ⟨hbk, hB, hl⟩ := T; obtain ⟨d0, d1, d2, d3, d4, d5, d6⟩ := cells8 hbk; skip) | (go_at_call 26; refine (refN _ _).mono ?_; rintro r w4 ⟨rfl, hb4⟩; have T := one_step hbk hB hl hb4; clear hbk hB hl hb4 d0 d1 d2 d3 d4 d5 d6; obtain ⟨hbk, hB, hl⟩ := T; obtain ⟨d0, d1, d2, d3, d4, d5, d6⟩ := cells8 hbk; skip))
     go_ret
     exact ⟨by rw [E.out]; rfl, hB⟩
   ·have E := Lib.hid (show rightB ⟨c, f0, f1, c0, c1, r0, r1⟩ = true by unfold rightB; dsimp only; rw [hc, hs0, hs1]; rfl)
    go_wp2
    go_ret
    exact ⟨by rw [E.out]; rfl, hB⟩
 ·have hc' : elB c = false := by simpa using hc
  have E := Lib.hid (show rightB ⟨c, f0, f1, c0, c1, r0, r1⟩ = false by unfold rightB; dsimp only; rw [hc']; rfl)
  clear hc
  go_enter Tryd.func32, Tryd.ntmps32
  go_wp2_with (first | (go_at_call 59; refine (refE _ _).mono ?_; rintro r w3 ⟨rfl, hb3⟩; have T := one_step hbk hB hl hb3; clear hbk hB hl hb3 d0 d1 d2 d3 d4 d5 d6; obtain ⟨hbk, hB, hl⟩ := T; obtain ⟨d0, d1, d2, d3, d4, d5, d6⟩ := cells8 hbk; skip) | (go_at_call 26; refine (refN _ _).mono ?_; rintro r w4 ⟨rfl, hb4⟩; have T := one_step hbk hB hl hb4; clear hbk hB hl hb4 d0 d1 d2 d3 d4 d5 d6; obtain ⟨hbk, hB, hl⟩ := T; obtain ⟨d0, d1, d2, d3, d4, d5, d6⟩ := cells8 hbk; skip))
  go_ret
  exact ⟨by rw [E.out]; rfl, hB⟩
-- GENRF2
set_option maxHeartbeats 4000000 in
theorem ref_bit0 (r j : Int) (seed : ByteArray) (hr : nuB r = true) (hj : 0 ≤ j ∧ j < 100) (hs : seed.size ≤ 1000000) (w : World) :
  Calls Tryd.prog 29 #[.int .i64 0, .int .i64 r, .string seed, .int .i64 j] w fun e w' => e = .returned (bit0P r seed j).val ∧ Below w.heap.size w w' := by
 go_enter Tryd.func29, Tryd.ntmps29
 go_wp2_with (first | (go_at_call 52; refine (refC _ _ _).mono ?_; rintro e w1 ⟨rfl, hb1⟩; refine Hid.out ?_))
 refine Lib.hid ?_
 have hz := Rf.alloc_new w (.cells #[.int .i64 0, .int .i64 0, .int .i64 0, .int .i64 0, .int .i64 0, .int .i64 0, .int .i64 0] 25) rfl
 have hk1 := (hb1.block _ (by simp)).trans hz
 have hb01 := ((Below.refl w.heap.size w).alloc (Nat.le_refl _) (.cells #[.int .i64 0, .int .i64 0, .int .i64 0, .int .i64 0, .int .i64 0, .int .i64 0, .int .i64 0] 25)).trans (hb1.mono (by simp))
 have hsq1 : w.heap.size < w1.heap.size := by have := hb1.size; simp at this; omega
 have hcr := comI_range 0 r
 obtain ⟨C, hC⟩ : ∃ C, (comI 0 r).1 = C := ⟨_, rfl⟩
 obtain ⟨E0, hE0⟩ : ∃ C, (comI 0 r).2 = C := ⟨_, rfl⟩
 rw [hC] at hcr
 rw [hC, hE0]
 have HC := Lib.hid hC
 clear hz hb1 hE0 hC
 go_wp2_with (first | (go_at_call 28; refine Hid.out ?_))
 refine Lib.hid ?_
 refine (refR seed hs j 1 (by omega) (by omega) _).mono ?_
 rintro e w2 ⟨rfl, hbq⟩
 have hk2 := (hbq.block _ hsq1).trans hk1
 have hb02 := hb01.trans (hbq.mono hb01.size)
 have hsq2 : w.heap.size < w2.heap.size := Nat.lt_of_lt_of_le hsq1 hbq.size
 clear hk1 hb01 hsq1 hbq
 obtain ⟨kk, hkk⟩ : ∃ x, Hash.hsh seed [j, 1] = x := ⟨_, rfl⟩
 have hkkr := Hash.hsh_range seed [j, 1]
 rw [hkk] at hkkr ⊢
 have HK := Lib.hid hkk
 clear hkk
 go_wp2_with (first | (go_at_call 28; refine Hid.out ?_))
 refine Lib.hid ?_
 refine (refR seed hs j 2 (by omega) (by omega) _).mono ?_
 rintro e w3 ⟨rfl, hbq⟩
 have hk3 := (hbq.block _ hsq2).trans hk2
 have hb03 := hb02.trans (hbq.mono hb02.size)
 have hsq3 : w.heap.size < w3.heap.size := Nat.lt_of_lt_of_le hsq2 hbq.size
 clear hk2 hb02 hsq2 hbq
 obtain ⟨ee, hee⟩ : ∃ x, Hash.hsh seed [j, 2] = x := ⟨_, rfl⟩
 have heer := Hash.hsh_range seed [j, 2]
 rw [hee] at heer ⊢
 have HE := Lib.hid hee
 clear hee
 go_wp2_with (first | (go_at_call 28; refine Hid.out ?_))
 refine Lib.hid ?_
 refine (refR seed hs j 3 (by omega) (by omega) _).mono ?_
 rintro e w4 ⟨rfl, hbq⟩
 have hk4 := (hbq.block _ hsq3).trans hk3
 have hb04 := hb03.trans (hbq.mono hb03.size)
 have hsq4 : w.heap.size < w4.heap.size := Nat.lt_of_lt_of_le hsq3 hbq.size
 clear hk3 hb03 hsq3 hbq
 obtain ⟨zz, hzz⟩ : ∃ x, Hash.hsh seed [j, 3] = x := ⟨_, rfl⟩
 have hzzr := Hash.hsh_range seed [j, 3]
 rw [hzz] at hzzr ⊢
 have HZ := Lib.hid hzz
 clear hzz
 have hsz := hb04.size
 have hsq := hsq4
 have hx5 := Rf.alloc_new w4 (.cells #[.int .i64 C, .int .i64 0, .int .i64 0, .int .i64 0, .int .i64 0, .int .i64 0, .int .i64 0] 25) rfl
 obtain ⟨d0, d1, d2, d3, d4, d5, d6⟩ := cells8 hx5
 have fz := fun i => Tool.free_blk hx5 i
 go_wp2_with (first | (go_at_call 54; refine Hid.out ?_))
 refine Lib.hid ?_
 clear d0 d1 d2 d3 d4 d5 d6 fz
 have hx6 : (w4.alloc (.cells #[.int .i64 C, .int .i64 0, .int .i64 0, .int .i64 0, .int .i64 ee, .int .i64 0, .int .i64 zz] 25)).heap[w4.heap.size]? = some (.cells #[.int .i64 C, .int .i64 0, .int .i64 0, .int .i64 0, .int .i64 ee, .int .i64 0, .int .i64 zz] 25 (0, 0)) := Rf.alloc_new w4 (.cells #[.int .i64 C, .int .i64 0, .int .i64 0, .int .i64 0, .int .i64 ee, .int .i64 0, .int .i64 zz] 25) rfl
 have hk6 : (w4.alloc (.cells #[.int .i64 C, .int .i64 0, .int .i64 0, .int .i64 0, .int .i64 ee, .int .i64 0, .int .i64 zz] 25)).heap[w.heap.size]? = some (.cells #[.int .i64 0, .int .i64 0, .int .i64 0, .int .i64 0, .int .i64 0, .int .i64 0, .int .i64 0] 25 (0, 0)) := Rf.alloc_old (.cells #[.int .i64 C, .int .i64 0, .int .i64 0, .int .i64 0, .int .i64 ee, .int .i64 0, .int .i64 zz] 25) hk4
 have hb06 : Below w.heap.size w (w4.alloc (.cells #[.int .i64 C, .int .i64 0, .int .i64 0, .int .i64 0, .int .i64 ee, .int .i64 0, .int .i64 zz] 25)) := hb04.alloc hsz (.cells #[.int .i64 C, .int .i64 0, .int .i64 0, .int .i64 0, .int .i64 ee, .int .i64 0, .int .i64 zz] 25)
 have hs6 : w4.heap.size < (w4.alloc (.cells #[.int .i64 C, .int .i64 0, .int .i64 0, .int .i64 0, .int .i64 ee, .int .i64 0, .int .i64 zz] 25)).heap.size := by simp
 obtain ⟨w6, hw6⟩ : ∃ x, (w4.alloc (.cells #[.int .i64 C, .int .i64 0, .int .i64 0, .int .i64 0, .int .i64 ee, .int .i64 0, .int .i64 zz] 25)) = x := ⟨_, rfl⟩
 first | rw [hw6] at hx6 hk6 hb06 hs6 ⊢ | (trace_state; fail)
 clear hw6 hx5 hk4 hb04
 refine (refP 9 zz ⟨by decide, by decide, by omega, by omega⟩ w6).mono ?_
 rintro e w7 ⟨rfl, hbq⟩
 have hx7 := (hbq.block _ hs6).trans hx6
 have hk7 := (hbq.block _ (Nat.lt_trans hsq hs6)).trans hk6
 have hb07 := hb06.trans (hbq.mono hb06.size)
 have hs7 : w4.heap.size < w7.heap.size := Nat.lt_of_lt_of_le hs6 hbq.size
 clear hx6 hk6 hb06 hs6 hbq
 obtain ⟨aa, haa⟩ : ∃ x, pwI 9 zz = x := ⟨_, rfl⟩
 have haar := pwI_range 9 zz
 rw [haa] at haar ⊢
 have HA := Lib.hid haa
 clear haa
 go_wp2_with (first | (go_at_call 56; refine Hid.out ?_))
 refine Lib.hid ?_
 refine (refS1 C hcr w7).mono ?_
 rintro e w8 ⟨rfl, hbq⟩
 have hx8 := (hbq.block _ hs7).trans hx7
 have hk8 := (hbq.block _ (Nat.lt_trans hsq hs7)).trans hk7
 have hb08 := hb07.trans (hbq.mono hb07.size)
 have hs8 : w4.heap.size < w8.heap.size := Nat.lt_of_lt_of_le hs7 hbq.size
 clear hx7 hk7 hb07 hs7 hbq
 obtain ⟨D, hD⟩ : ∃ x, mulI C (invI 4) = x := ⟨_, rfl⟩
 have hDr := mulI_range C (invI 4)
 rw [hD] at hDr ⊢
 have HD := Lib.hid hD
 clear hD
 go_wp2_with (first | (go_at_call 55; refine Hid.out ?_))
 refine Lib.hid ?_
 refine (refI D hDr w8).mono ?_
 rintro e w9 ⟨rfl, hbq⟩
 have hx9 := (hbq.block _ hs8).trans hx8
 have hk9 := (hbq.block _ (Nat.lt_trans hsq hs8)).trans hk8
 have hb09 := hb08.trans (hbq.mono hb08.size)
 have hs9 : w4.heap.size < w9.heap.size := Nat.lt_of_lt_of_le hs8 hbq.size
 clear hx8 hk8 hb08 hs8 hbq
 obtain ⟨I, hI⟩ : ∃ x, invI D = x := ⟨_, rfl⟩
 have hIr := RfL.invI_range D
 rw [hI] at hIr ⊢
 have HI := Lib.hid hI
 clear hI
 go_wp2_with (first | (go_at_call 54; refine Hid.out ?_))
 refine Lib.hid ?_
 refine (refP I ee ⟨hIr.1, hIr.2, by omega, by omega⟩ w9).mono ?_
 rintro e w10 ⟨rfl, hbq⟩
 have hx10 := (hbq.block _ hs9).trans hx9
 have hk10 := (hbq.block _ (Nat.lt_trans hsq hs9)).trans hk9
 have hb010 := hb09.trans (hbq.mono hb09.size)
 have hs10 : w4.heap.size < w10.heap.size := Nat.lt_of_lt_of_le hs9 hbq.size
 clear hx9 hk9 hb09 hs9 hbq
 obtain ⟨bb, hbb⟩ : ∃ x, pwI I ee = x := ⟨_, rfl⟩
 have hbbr := pwI_range I ee
 rw [hbb] at hbbr ⊢
 have HB := Lib.hid hbb
 clear hbb
 go_wp2_with (first | (go_at_call 53; refine Hid.out ?_))
 refine Lib.hid ?_
 refine (refT aa bb ⟨haar.1, haar.2, hbbr.1, hbbr.2⟩ w10).mono ?_
 rintro e w11 ⟨rfl, hbq⟩
 have hx11 := (hbq.block _ hs10).trans hx10
 have hk11 := (hbq.block _ (Nat.lt_trans hsq hs10)).trans hk10
 have hb011 := hb010.trans (hbq.mono hb010.size)
 have hs11 : w4.heap.size < w11.heap.size := Nat.lt_of_lt_of_le hs10 hbq.size
 clear hx10 hk10 hb010 hs10 hbq
 obtain ⟨ff, hff⟩ : ∃ x, mulI aa bb = x := ⟨_, rfl⟩
 have hffr := mulI_range aa bb
 rw [hff] at hffr ⊢
 have HF := Lib.hid hff
 clear hff
 obtain ⟨d0, d1, d2, d3, d4, d5, d6⟩ := cells8 hx11
 have fz := fun i => Tool.free_blk hx11 i
 go_wp2_with (first | (go_at_call 54; refine Hid.out ?_))
 refine Lib.hid ?_
 clear d0 d1 d2 d3 d4 d5 d6 fz
 have hx12 := Tool.set_blk hx11 2 (.int .i64 ff)
 have hk12 := Rf.set_other' (i := 2) (v := .int .i64 ff) (b := w4.heap.size) hk11 (Nat.ne_of_lt hsq)
 have hb012 := Below.setCell hb011 (p := ⟨w4.heap.size, 2, none⟩) (by exact hsz) (.int .i64 ff)
 have hs12 := size_set' (b := w4.heap.size) hs11 (i := 2) (v := .int .i64 ff)
 clear hx11 hk11 hb011 hs11
 generalize World.setCell w11 ⟨w4.heap.size, 2, none⟩ (.int .i64 ff) = w12 at hx12 hk12 hb012 hs12 ⊢
 change w12.heap[w4.heap.size]? = some (.cells #[.int .i64 C, .int .i64 0, .int .i64 ff, .int .i64 0, .int .i64 ee, .int .i64 0, .int .i64 zz] 25 (0, 0)) at hx12
 refine (refP 9 kk ⟨by decide, by decide, by omega, by omega⟩ w12).mono ?_
 rintro e w13 ⟨rfl, hbq⟩
 have hx13 := (hbq.block _ hs12).trans hx12
 have hk13 := (hbq.block _ (Nat.lt_trans hsq hs12)).trans hk12
 have hb013 := hb012.trans (hbq.mono hb012.size)
 have hs13 : w4.heap.size < w13.heap.size := Nat.lt_of_lt_of_le hs12 hbq.size
 clear hx12 hk12 hb012 hs12 hbq
 obtain ⟨gg, hgg⟩ : ∃ x, pwI 9 kk = x := ⟨_, rfl⟩
 have hggr := pwI_range 9 kk
 rw [hgg] at hggr ⊢
 have HGG := Lib.hid hgg
 clear hgg
 obtain ⟨d0, d1, d2, d3, d4, d5, d6⟩ := cells8 hx13
 have fz := fun i => Tool.free_blk hx13 i
 go_wp2_with (first | (go_at_call 57; refine Hid.out ?_))
 refine Lib.hid ?_
 clear d0 d1 d2 d3 d4 d5 d6 fz
 have hx14 := Tool.set_blk hx13 1 (.int .i64 gg)
 have hk14 := Rf.set_other' (i := 1) (v := .int .i64 gg) (b := w4.heap.size) hk13 (Nat.ne_of_lt hsq)
 have hb014 := Below.setCell hb013 (p := ⟨w4.heap.size, 1, none⟩) (by exact hsz) (.int .i64 gg)
 have hs14 := size_set' (b := w4.heap.size) hs13 (i := 1) (v := .int .i64 gg)
 clear hx13 hk13 hb013 hs13
 generalize World.setCell w13 ⟨w4.heap.size, 1, none⟩ (.int .i64 gg) = w14 at hx14 hk14 hb014 hs14 ⊢
 change w14.heap[w4.heap.size]? = some (.cells #[.int .i64 C, .int .i64 gg, .int .i64 ff, .int .i64 0, .int .i64 ee, .int .i64 0, .int .i64 zz] 25 (0, 0)) at hx14
 refine (refCh C gg ff hcr hggr hffr w14).mono ?_
 rintro e w15 ⟨rfl, hbq⟩
 have hx15 := (hbq.block _ hs14).trans hx14
 have hk15 := (hbq.block _ (Nat.lt_trans hsq hs14)).trans hk14
 have hb015 := hb014.trans (hbq.mono hb014.size)
 have hs15 : w4.heap.size < w15.heap.size := Nat.lt_of_lt_of_le hs14 hbq.size
 clear hx14 hk14 hb014 hs14 hbq
 obtain ⟨cc, hcc⟩ : ∃ x, chal C gg ff = x := ⟨_, rfl⟩
 have hccr := chal_range C gg ff
 rw [hcc] at hccr ⊢
 have HCC := Lib.hid hcc
 clear hcc
 obtain ⟨hr0, hr1⟩ := nuB_range hr
 have hM0 : 0 ≤ ((cc - ee) % 1073741789) * r := Int.mul_nonneg (Int.emod_nonneg _ (by decide)) hr0
 have hM1 : ((cc - ee) % 1073741789) * r ≤ 1073741789 * 1073741789 := Int.mul_le_mul (Int.le_of_lt (Int.emod_lt_of_pos _ (by decide))) (by omega) hr0 (by decide)
 have hXe : (cc + 1073741789 - ee) % 1073741789 = (cc - ee) % 1073741789 := by omega
 have HXE := Lib.hid hXe
 clear hXe
 obtain ⟨d0, d1, d2, d3, d4, d5, d6⟩ := cells8 hx15
 have fz := fun i => Tool.free_blk hx15 i
 obtain ⟨e0, e1, e2, e3, e4, e5, e6⟩ := cells8 hk15
 have fk := fun i => Tool.free_blk hk15 i
 have q1 : wrap64 (((cc - ee) % 1073741789) * r) = ((cc - ee) % 1073741789) * r := by unfold wrap64; omega
 have q2 : wrap64 (kk + ((cc - ee) % 1073741789) * r) = kk + ((cc - ee) % 1073741789) * r := by unfold wrap64; omega
 have q3 : (wrap64 (kk + wrap64 (((cc - ee) % 1073741789) * r))).tmod 1073741789 = (kk + ((cc - ee) % 1073741789) * r) % 1073741789 := by
  rw [q1, q2]
  exact Int.tmod_eq_emod_of_nonneg (by omega)
 have Q3 := Lib.hid q3
 clear q1 q2 q3 hM0 hM1
 go_wp2
 try simp only [HXE.out]
 rw [Q3.out]
 have hkf := (Tool.set_blk (Tool.set_blk (Tool.set_blk (Tool.set_blk (Tool.set_blk (Tool.set_blk (Tool.set_blk (Rf.set_other' (i := 5) (v := .int .i64 ((kk + (cc - ee) % 1073741789 * r) % 1073741789)) (b := w4.heap.size) (Rf.set_other' (i := 3) (v := .int .i64 ((cc - ee) % 1073741789)) (b := w4.heap.size) hk15 (Nat.ne_of_lt hsq)) (Nat.ne_of_lt hsq)) 0 (.int .i64 C)) 1 (.int .i64 gg)) 2 (.int .i64 ff)) 3 (.int .i64 ((cc - ee) % 1073741789))) 4 (.int .i64 ee)) 5 (.int .i64 ((kk + (cc - ee) % 1073741789 * r) % 1073741789))) 6 (.int .i64 zz))
 have hbf := (Below.setCell (Below.setCell (Below.setCell (Below.setCell (Below.setCell (Below.setCell (Below.setCell (Below.setCell (Below.setCell hb015 (p := ⟨w4.heap.size, 3, none⟩) (by first | exact hsz | exact Nat.le_refl _) (.int .i64 ((cc - ee) % 1073741789))) (p := ⟨w4.heap.size, 5, none⟩) (by first | exact hsz | exact Nat.le_refl _) (.int .i64 ((kk + (cc - ee) % 1073741789 * r) % 1073741789))) (p := ⟨w.heap.size, 0, none⟩) (by first | exact hsz | exact Nat.le_refl _) (.int .i64 C)) (p := ⟨w.heap.size, 1, none⟩) (by first | exact hsz | exact Nat.le_refl _) (.int .i64 gg)) (p := ⟨w.heap.size, 2, none⟩) (by first | exact hsz | exact Nat.le_refl _) (.int .i64 ff)) (p := ⟨w.heap.size, 3, none⟩) (by first | exact hsz | exact Nat.le_refl _) (.int .i64 ((cc - ee) % 1073741789))) (p := ⟨w.heap.size, 4, none⟩) (by first | exact hsz | exact Nat.le_refl _) (.int .i64 ee)) (p := ⟨w.heap.size, 5, none⟩) (by first | exact hsz | exact Nat.le_refl _) (.int .i64 ((kk + (cc - ee) % 1073741789 * r) % 1073741789))) (p := ⟨w.heap.size, 6, none⟩) (by first | exact hsz | exact Nat.le_refl _) (.int .i64 zz))
 clear e0 e1 e2 e3 e4 e5 e6 fk d0 d1 d2 d3 d4 d5 d6 fz hx15 hk15 hb015 hs15
 generalize World.setCell _ ⟨w.heap.size, 6, none⟩ _ = wf at hkf hbf ⊢
 change wf.heap[w.heap.size]? = some (.cells #[.int .i64 C, .int .i64 gg, .int .i64 ff, .int .i64 ((cc - ee) % 1073741789), .int .i64 ee, .int .i64 ((kk + (cc - ee) % 1073741789 * r) % 1073741789), .int .i64 zz] 25 (0, 0)) at hkf
 obtain ⟨e0, e1, e2, e3, e4, e5, e6⟩ := cells8 hkf
 refine ⟨rfl, .agg #[.int .i64 C, .int .i64 gg, .int .i64 ff, .int .i64 ((cc - ee) % 1073741789), .int .i64 ee, .int .i64 ((kk + (cc - ee) % 1073741789 * r) % 1073741789), .int .i64 zz], ?_, ?_, hbf⟩
 ·simp [results, go_sem, e0, e1, e2, e3, e4, e5, e6]
 ·unfold bit0P
  simp only [HC.out, HK.out, HE.out, HZ.out, HA.out, HD.out, HI.out, HB.out, HF.out, HGG.out, HCC.out]
  rfl
set_option maxHeartbeats 4000000 in
theorem ref_bit1 (r j : Int) (seed : ByteArray) (hr : nuB r = true) (hj : 0 ≤ j ∧ j < 100) (hs : seed.size ≤ 1000000) (w : World) :
  Calls Tryd.prog 29 #[.int .i64 1, .int .i64 r, .string seed, .int .i64 j] w fun e w' => e = .returned (bit1P r seed j).val ∧ Below w.heap.size w w' := by
 go_enter Tryd.func29, Tryd.ntmps29
 go_wp2_with (first | (go_at_call 52; refine (refC _ _ _).mono ?_; rintro e w1 ⟨rfl, hb1⟩; refine Hid.out ?_))
 refine Lib.hid ?_
 have hz := Rf.alloc_new w (.cells #[.int .i64 0, .int .i64 0, .int .i64 0, .int .i64 0, .int .i64 0, .int .i64 0, .int .i64 0] 25) rfl
 have hk1 := (hb1.block _ (by simp)).trans hz
 have hb01 := ((Below.refl w.heap.size w).alloc (Nat.le_refl _) (.cells #[.int .i64 0, .int .i64 0, .int .i64 0, .int .i64 0, .int .i64 0, .int .i64 0, .int .i64 0] 25)).trans (hb1.mono (by simp))
 have hsq1 : w.heap.size < w1.heap.size := by have := hb1.size; simp at this; omega
 have hcr := comI_range 1 r
 obtain ⟨C, hC⟩ : ∃ C, (comI 1 r).1 = C := ⟨_, rfl⟩
 obtain ⟨E0, hE0⟩ : ∃ C, (comI 1 r).2 = C := ⟨_, rfl⟩
 rw [hC] at hcr
 rw [hC, hE0]
 have HC := Lib.hid hC
 clear hz hb1 hE0 hC
 go_wp2_with (first | (go_at_call 28; refine Hid.out ?_))
 refine Lib.hid ?_
 refine (refR seed hs j 1 (by omega) (by omega) _).mono ?_
 rintro e w2 ⟨rfl, hbq⟩
 have hk2 := (hbq.block _ hsq1).trans hk1
 have hb02 := hb01.trans (hbq.mono hb01.size)
 have hsq2 : w.heap.size < w2.heap.size := Nat.lt_of_lt_of_le hsq1 hbq.size
 clear hk1 hb01 hsq1 hbq
 obtain ⟨kk, hkk⟩ : ∃ x, Hash.hsh seed [j, 1] = x := ⟨_, rfl⟩
 have hkkr := Hash.hsh_range seed [j, 1]
 rw [hkk] at hkkr ⊢
 have HK := Lib.hid hkk
 clear hkk
 go_wp2_with (first | (go_at_call 28; refine Hid.out ?_))
 refine Lib.hid ?_
 refine (refR seed hs j 2 (by omega) (by omega) _).mono ?_
 rintro e w3 ⟨rfl, hbq⟩
 have hk3 := (hbq.block _ hsq2).trans hk2
 have hb03 := hb02.trans (hbq.mono hb02.size)
 have hsq3 : w.heap.size < w3.heap.size := Nat.lt_of_lt_of_le hsq2 hbq.size
 clear hk2 hb02 hsq2 hbq
 obtain ⟨ee, hee⟩ : ∃ x, Hash.hsh seed [j, 2] = x := ⟨_, rfl⟩
 have heer := Hash.hsh_range seed [j, 2]
 rw [hee] at heer ⊢
 have HE := Lib.hid hee
 clear hee
 go_wp2_with (first | (go_at_call 28; refine Hid.out ?_))
 refine Lib.hid ?_
 refine (refR seed hs j 3 (by omega) (by omega) _).mono ?_
 rintro e w4 ⟨rfl, hbq⟩
 have hk4 := (hbq.block _ hsq3).trans hk3
 have hb04 := hb03.trans (hbq.mono hb03.size)
 have hsq4 : w.heap.size < w4.heap.size := Nat.lt_of_lt_of_le hsq3 hbq.size
 clear hk3 hb03 hsq3 hbq
 obtain ⟨zz, hzz⟩ : ∃ x, Hash.hsh seed [j, 3] = x := ⟨_, rfl⟩
 have hzzr := Hash.hsh_range seed [j, 3]
 rw [hzz] at hzzr ⊢
 have HZ := Lib.hid hzz
 clear hzz
 have hsz := hb04.size
 have hsq := hsq4
 have hx5 := Rf.alloc_new w4 (.cells #[.int .i64 C, .int .i64 0, .int .i64 0, .int .i64 0, .int .i64 0, .int .i64 0, .int .i64 0] 25) rfl
 obtain ⟨d0, d1, d2, d3, d4, d5, d6⟩ := cells8 hx5
 have fz := fun i => Tool.free_blk hx5 i
 go_wp2_with (first | (go_at_call 54; refine Hid.out ?_))
 refine Lib.hid ?_
 clear d0 d1 d2 d3 d4 d5 d6 fz
 have hx6 : (w4.alloc (.cells #[.int .i64 C, .int .i64 0, .int .i64 0, .int .i64 ee, .int .i64 0, .int .i64 zz, .int .i64 0] 25)).heap[w4.heap.size]? = some (.cells #[.int .i64 C, .int .i64 0, .int .i64 0, .int .i64 ee, .int .i64 0, .int .i64 zz, .int .i64 0] 25 (0, 0)) := Rf.alloc_new w4 (.cells #[.int .i64 C, .int .i64 0, .int .i64 0, .int .i64 ee, .int .i64 0, .int .i64 zz, .int .i64 0] 25) rfl
 have hk6 : (w4.alloc (.cells #[.int .i64 C, .int .i64 0, .int .i64 0, .int .i64 ee, .int .i64 0, .int .i64 zz, .int .i64 0] 25)).heap[w.heap.size]? = some (.cells #[.int .i64 0, .int .i64 0, .int .i64 0, .int .i64 0, .int .i64 0, .int .i64 0, .int .i64 0] 25 (0, 0)) := Rf.alloc_old (.cells #[.int .i64 C, .int .i64 0, .int .i64 0, .int .i64 ee, .int .i64 0, .int .i64 zz, .int .i64 0] 25) hk4
 have hb06 : Below w.heap.size w (w4.alloc (.cells #[.int .i64 C, .int .i64 0, .int .i64 0, .int .i64 ee, .int .i64 0, .int .i64 zz, .int .i64 0] 25)) := hb04.alloc hsz (.cells #[.int .i64 C, .int .i64 0, .int .i64 0, .int .i64 ee, .int .i64 0, .int .i64 zz, .int .i64 0] 25)
 have hs6 : w4.heap.size < (w4.alloc (.cells #[.int .i64 C, .int .i64 0, .int .i64 0, .int .i64 ee, .int .i64 0, .int .i64 zz, .int .i64 0] 25)).heap.size := by simp
 obtain ⟨w6, hw6⟩ : ∃ x, (w4.alloc (.cells #[.int .i64 C, .int .i64 0, .int .i64 0, .int .i64 ee, .int .i64 0, .int .i64 zz, .int .i64 0] 25)) = x := ⟨_, rfl⟩
 first | rw [hw6] at hx6 hk6 hb06 hs6 ⊢ | (trace_state; fail)
 clear hw6 hx5 hk4 hb04
 refine (refP 9 zz ⟨by decide, by decide, by omega, by omega⟩ w6).mono ?_
 rintro e w7 ⟨rfl, hbq⟩
 have hx7 := (hbq.block _ hs6).trans hx6
 have hk7 := (hbq.block _ (Nat.lt_trans hsq hs6)).trans hk6
 have hb07 := hb06.trans (hbq.mono hb06.size)
 have hs7 : w4.heap.size < w7.heap.size := Nat.lt_of_lt_of_le hs6 hbq.size
 clear hx6 hk6 hb06 hs6 hbq
 obtain ⟨aa, haa⟩ : ∃ x, pwI 9 zz = x := ⟨_, rfl⟩
 have haar := pwI_range 9 zz
 rw [haa] at haar ⊢
 have HA := Lib.hid haa
 clear haa
 go_wp2_with (first | (go_at_call 56; refine Hid.out ?_))
 refine Lib.hid ?_
 refine (refS0 C w7).mono ?_
 rintro e w8 ⟨rfl, hbq⟩
 have hx8 := (hbq.block _ hs7).trans hx7
 have hk8 := (hbq.block _ (Nat.lt_trans hsq hs7)).trans hk7
 have hb08 := hb07.trans (hbq.mono hb07.size)
 have hs8 : w4.heap.size < w8.heap.size := Nat.lt_of_lt_of_le hs7 hbq.size
 clear hx7 hk7 hb07 hs7 hbq
 have hDr := hcr
 go_wp2_with (first | (go_at_call 55; refine Hid.out ?_))
 refine Lib.hid ?_
 refine (refI C hDr w8).mono ?_
 rintro e w9 ⟨rfl, hbq⟩
 have hx9 := (hbq.block _ hs8).trans hx8
 have hk9 := (hbq.block _ (Nat.lt_trans hsq hs8)).trans hk8
 have hb09 := hb08.trans (hbq.mono hb08.size)
 have hs9 : w4.heap.size < w9.heap.size := Nat.lt_of_lt_of_le hs8 hbq.size
 clear hx8 hk8 hb08 hs8 hbq
 obtain ⟨I, hI⟩ : ∃ x, invI C = x := ⟨_, rfl⟩
 have hIr := RfL.invI_range C
 rw [hI] at hIr ⊢
 have HI := Lib.hid hI
 clear hI
 go_wp2_with (first | (go_at_call 54; refine Hid.out ?_))
 refine Lib.hid ?_
 refine (refP I ee ⟨hIr.1, hIr.2, by omega, by omega⟩ w9).mono ?_
 rintro e w10 ⟨rfl, hbq⟩
 have hx10 := (hbq.block _ hs9).trans hx9
 have hk10 := (hbq.block _ (Nat.lt_trans hsq hs9)).trans hk9
 have hb010 := hb09.trans (hbq.mono hb09.size)
 have hs10 : w4.heap.size < w10.heap.size := Nat.lt_of_lt_of_le hs9 hbq.size
 clear hx9 hk9 hb09 hs9 hbq
 obtain ⟨bb, hbb⟩ : ∃ x, pwI I ee = x := ⟨_, rfl⟩
 have hbbr := pwI_range I ee
 rw [hbb] at hbbr ⊢
 have HB := Lib.hid hbb
 clear hbb
 go_wp2_with (first | (go_at_call 53; refine Hid.out ?_))
 refine Lib.hid ?_
 refine (refT aa bb ⟨haar.1, haar.2, hbbr.1, hbbr.2⟩ w10).mono ?_
 rintro e w11 ⟨rfl, hbq⟩
 have hx11 := (hbq.block _ hs10).trans hx10
 have hk11 := (hbq.block _ (Nat.lt_trans hsq hs10)).trans hk10
 have hb011 := hb010.trans (hbq.mono hb010.size)
 have hs11 : w4.heap.size < w11.heap.size := Nat.lt_of_lt_of_le hs10 hbq.size
 clear hx10 hk10 hb010 hs10 hbq
 obtain ⟨ff, hff⟩ : ∃ x, mulI aa bb = x := ⟨_, rfl⟩
 have hffr := mulI_range aa bb
 rw [hff] at hffr ⊢
 have HF := Lib.hid hff
 clear hff
 obtain ⟨d0, d1, d2, d3, d4, d5, d6⟩ := cells8 hx11
 have fz := fun i => Tool.free_blk hx11 i
 go_wp2_with (first | (go_at_call 54; refine Hid.out ?_))
 refine Lib.hid ?_
 clear d0 d1 d2 d3 d4 d5 d6 fz
 have hx12 := Tool.set_blk hx11 1 (.int .i64 ff)
 have hk12 := Rf.set_other' (i := 1) (v := .int .i64 ff) (b := w4.heap.size) hk11 (Nat.ne_of_lt hsq)
 have hb012 := Below.setCell hb011 (p := ⟨w4.heap.size, 1, none⟩) (by exact hsz) (.int .i64 ff)
 have hs12 := size_set' (b := w4.heap.size) hs11 (i := 1) (v := .int .i64 ff)
 clear hx11 hk11 hb011 hs11
 generalize World.setCell w11 ⟨w4.heap.size, 1, none⟩ (.int .i64 ff) = w12 at hx12 hk12 hb012 hs12 ⊢
 change w12.heap[w4.heap.size]? = some (.cells #[.int .i64 C, .int .i64 ff, .int .i64 0, .int .i64 ee, .int .i64 0, .int .i64 zz, .int .i64 0] 25 (0, 0)) at hx12
 refine (refP 9 kk ⟨by decide, by decide, by omega, by omega⟩ w12).mono ?_
 rintro e w13 ⟨rfl, hbq⟩
 have hx13 := (hbq.block _ hs12).trans hx12
 have hk13 := (hbq.block _ (Nat.lt_trans hsq hs12)).trans hk12
 have hb013 := hb012.trans (hbq.mono hb012.size)
 have hs13 : w4.heap.size < w13.heap.size := Nat.lt_of_lt_of_le hs12 hbq.size
 clear hx12 hk12 hb012 hs12 hbq
 obtain ⟨gg, hgg⟩ : ∃ x, pwI 9 kk = x := ⟨_, rfl⟩
 have hggr := pwI_range 9 kk
 rw [hgg] at hggr ⊢
 have HGG := Lib.hid hgg
 clear hgg
 obtain ⟨d0, d1, d2, d3, d4, d5, d6⟩ := cells8 hx13
 have fz := fun i => Tool.free_blk hx13 i
 go_wp2_with (first | (go_at_call 57; refine Hid.out ?_))
 refine Lib.hid ?_
 clear d0 d1 d2 d3 d4 d5 d6 fz
 have hx14 := Tool.set_blk hx13 2 (.int .i64 gg)
 have hk14 := Rf.set_other' (i := 2) (v := .int .i64 gg) (b := w4.heap.size) hk13 (Nat.ne_of_lt hsq)
 have hb014 := Below.setCell hb013 (p := ⟨w4.heap.size, 2, none⟩) (by exact hsz) (.int .i64 gg)
 have hs14 := size_set' (b := w4.heap.size) hs13 (i := 2) (v := .int .i64 gg)
 clear hx13 hk13 hb013 hs13
 generalize World.setCell w13 ⟨w4.heap.size, 2, none⟩ (.int .i64 gg) = w14 at hx14 hk14 hb014 hs14 ⊢
 change w14.heap[w4.heap.size]? = some (.cells #[.int .i64 C, .int .i64 ff, .int .i64 gg, .int .i64 ee, .int .i64 0, .int .i64 zz, .int .i64 0] 25 (0, 0)) at hx14
 refine (refCh C ff gg hcr hffr hggr w14).mono ?_
 rintro e w15 ⟨rfl, hbq⟩
 have hx15 := (hbq.block _ hs14).trans hx14
 have hk15 := (hbq.block _ (Nat.lt_trans hsq hs14)).trans hk14
 have hb015 := hb014.trans (hbq.mono hb014.size)
 have hs15 : w4.heap.size < w15.heap.size := Nat.lt_of_lt_of_le hs14 hbq.size
 clear hx14 hk14 hb014 hs14 hbq
 obtain ⟨cc, hcc⟩ : ∃ x, chal C ff gg = x := ⟨_, rfl⟩
 have hccr := chal_range C ff gg
 rw [hcc] at hccr ⊢
 have HCC := Lib.hid hcc
 clear hcc
 obtain ⟨hr0, hr1⟩ := nuB_range hr
 have hM0 : 0 ≤ ((cc - ee) % 1073741789) * r := Int.mul_nonneg (Int.emod_nonneg _ (by decide)) hr0
 have hM1 : ((cc - ee) % 1073741789) * r ≤ 1073741789 * 1073741789 := Int.mul_le_mul (Int.le_of_lt (Int.emod_lt_of_pos _ (by decide))) (by omega) hr0 (by decide)
 have hXe : (cc + 1073741789 - ee) % 1073741789 = (cc - ee) % 1073741789 := by omega
 have HXE := Lib.hid hXe
 clear hXe
 obtain ⟨d0, d1, d2, d3, d4, d5, d6⟩ := cells8 hx15
 have fz := fun i => Tool.free_blk hx15 i
 obtain ⟨e0, e1, e2, e3, e4, e5, e6⟩ := cells8 hk15
 have fk := fun i => Tool.free_blk hk15 i
 have q1 : wrap64 (((cc - ee) % 1073741789) * r) = ((cc - ee) % 1073741789) * r := by unfold wrap64; omega
 have q2 : wrap64 (kk + ((cc - ee) % 1073741789) * r) = kk + ((cc - ee) % 1073741789) * r := by unfold wrap64; omega
 have q3 : (wrap64 (kk + wrap64 (((cc - ee) % 1073741789) * r))).tmod 1073741789 = (kk + ((cc - ee) % 1073741789) * r) % 1073741789 := by
  rw [q1, q2]
  exact Int.tmod_eq_emod_of_nonneg (by omega)
 have Q3 := Lib.hid q3
 clear q1 q2 q3 hM0 hM1
 go_wp2
 try simp only [HXE.out]
 rw [Q3.out]
 have hkf := (Tool.set_blk (Tool.set_blk (Tool.set_blk (Tool.set_blk (Tool.set_blk (Tool.set_blk (Tool.set_blk (Rf.set_other' (i := 6) (v := .int .i64 ((kk + (cc - ee) % 1073741789 * r) % 1073741789)) (b := w4.heap.size) (Rf.set_other' (i := 4) (v := .int .i64 ((cc - ee) % 1073741789)) (b := w4.heap.size) hk15 (Nat.ne_of_lt hsq)) (Nat.ne_of_lt hsq)) 0 (.int .i64 C)) 1 (.int .i64 ff)) 2 (.int .i64 gg)) 3 (.int .i64 ee)) 4 (.int .i64 ((cc - ee) % 1073741789))) 5 (.int .i64 zz)) 6 (.int .i64 ((kk + (cc - ee) % 1073741789 * r) % 1073741789)))
 have hbf := (Below.setCell (Below.setCell (Below.setCell (Below.setCell (Below.setCell (Below.setCell (Below.setCell (Below.setCell (Below.setCell hb015 (p := ⟨w4.heap.size, 4, none⟩) (by first | exact hsz | exact Nat.le_refl _) (.int .i64 ((cc - ee) % 1073741789))) (p := ⟨w4.heap.size, 6, none⟩) (by first | exact hsz | exact Nat.le_refl _) (.int .i64 ((kk + (cc - ee) % 1073741789 * r) % 1073741789))) (p := ⟨w.heap.size, 0, none⟩) (by first | exact hsz | exact Nat.le_refl _) (.int .i64 C)) (p := ⟨w.heap.size, 1, none⟩) (by first | exact hsz | exact Nat.le_refl _) (.int .i64 ff)) (p := ⟨w.heap.size, 2, none⟩) (by first | exact hsz | exact Nat.le_refl _) (.int .i64 gg)) (p := ⟨w.heap.size, 3, none⟩) (by first | exact hsz | exact Nat.le_refl _) (.int .i64 ee)) (p := ⟨w.heap.size, 4, none⟩) (by first | exact hsz | exact Nat.le_refl _) (.int .i64 ((cc - ee) % 1073741789))) (p := ⟨w.heap.size, 5, none⟩) (by first | exact hsz | exact Nat.le_refl _) (.int .i64 zz)) (p := ⟨w.heap.size, 6, none⟩) (by first | exact hsz | exact Nat.le_refl _) (.int .i64 ((kk + (cc - ee) % 1073741789 * r) % 1073741789)))
 clear e0 e1 e2 e3 e4 e5 e6 fk d0 d1 d2 d3 d4 d5 d6 fz hx15 hk15 hb015 hs15
 generalize World.setCell _ ⟨w.heap.size, 6, none⟩ _ = wf at hkf hbf ⊢
 change wf.heap[w.heap.size]? = some (.cells #[.int .i64 C, .int .i64 ff, .int .i64 gg, .int .i64 ee, .int .i64 ((cc - ee) % 1073741789), .int .i64 zz, .int .i64 ((kk + (cc - ee) % 1073741789 * r) % 1073741789)] 25 (0, 0)) at hkf
 obtain ⟨e0, e1, e2, e3, e4, e5, e6⟩ := cells8 hkf
 refine ⟨rfl, .agg #[.int .i64 C, .int .i64 ff, .int .i64 gg, .int .i64 ee, .int .i64 ((cc - ee) % 1073741789), .int .i64 zz, .int .i64 ((kk + (cc - ee) % 1073741789 * r) % 1073741789)], ?_, ?_, hbf⟩
 ·simp [results, go_sem, e0, e1, e2, e3, e4, e5, e6]
 ·unfold bit1P
  simp only [HC.out, HK.out, HE.out, HZ.out, HA.out, HI.out, HB.out, HF.out, HGG.out, HCC.out]
  rfl
-- GENRF3
@[local go_sem high] theorem eq2v (w : World) (a b x y : Int) : (Op.equalIn 10000 23 (.agg #[.int .i64 a, .int .i64 b]) (.agg #[.int .i64 x, .int .i64 y])).run Tryd.prog w = .ok (a == x && b == y) w := eq2 9998 w a b x y
theorem two_step {w W W' : World} {x y : Obj} {n : Nat} (hk0 : W.heap[n]? = some x) (hk1 : W.heap[n + 1]? = some y) (hB : Below n w W) (hl : n + 1 < W.heap.size) (hb : Below W.heap.size W W') : W'.heap[n]? = some x ∧ W'.heap[n + 1]? = some y ∧ Below n w W' ∧ n + 1 < W'.heap.size :=
 ⟨(hb.block _ (Nat.lt_of_succ_lt hl)).trans hk0, (hb.block _ hl).trans hk1, hB.trans (hb.mono (Nat.le_of_lt (Nat.lt_of_succ_lt hl))), Nat.lt_of_lt_of_le hl hb.size⟩
set_option maxHeartbeats 4000000 in
theorem rx_no1 (c f0 f1 c0 c1 r0 r1 x g0 g1 d0 d1 s0 s1 : Int) (hA : rightB ⟨c, f0, f1, c0, c1, r0, r1⟩ = false) (w : World) :
  Calls Tryd.prog 13 #[.agg #[.int .i64 c, .int .i64 f0, .int .i64 f1, .int .i64 c0, .int .i64 c1, .int .i64 r0, .int .i64 r1], .agg #[.int .i64 x, .int .i64 g0, .int .i64 g1, .int .i64 d0, .int .i64 d1, .int .i64 s0, .int .i64 s1]] w
   fun e w' => e = .returned (.tuple #[.int .i64 0, .int .i64 0, .bool false]) ∧ Below w.heap.size w w' := by
 have hB := ((Below.refl w.heap.size w).alloc (Nat.le_refl _) (.cells #[.int .i64 c, .int .i64 f0, .int .i64 f1, .int .i64 c0, .int .i64 c1, .int .i64 r0, .int .i64 r1] 25)).alloc (by simp) (.cells #[.int .i64 x, .int .i64 g0, .int .i64 g1, .int .i64 d0, .int .i64 d1, .int .i64 s0, .int .i64 s1] 25)
 have hk0 := Rf.alloc_old (.cells #[.int .i64 x, .int .i64 g0, .int .i64 g1, .int .i64 d0, .int .i64 d1, .int .i64 s0, .int .i64 s1] 25) (Rf.alloc_new w (.cells #[.int .i64 c, .int .i64 f0, .int .i64 f1, .int .i64 c0, .int .i64 c1, .int .i64 r0, .int .i64 r1] 25) rfl)
 have hk1 := Rf.alloc_new (w.alloc (.cells #[.int .i64 c, .int .i64 f0, .int .i64 f1, .int .i64 c0, .int .i64 c1, .int .i64 r0, .int .i64 r1] 25)) (.cells #[.int .i64 x, .int .i64 g0, .int .i64 g1, .int .i64 d0, .int .i64 d1, .int .i64 s0, .int .i64 s1] 25) (n := w.heap.size + 1) (by simp)
 have hl : w.heap.size + 1 < ((w.alloc (.cells #[.int .i64 c, .int .i64 f0, .int .i64 f1, .int .i64 c0, .int .i64 c1, .int .i64 r0, .int .i64 r1] 25)).alloc (.cells #[.int .i64 x, .int .i64 g0, .int .i64 g1, .int .i64 d0, .int .i64 d1, .int .i64 s0, .int .i64 s1] 25)).heap.size := by simp
 obtain ⟨k0, k1, k2, k3, k4, k5, k6⟩ := cells8 hk0
 obtain ⟨l0, l1, l2, l3, l4, l5, l6⟩ := cells8 hk1
 go_enter Tryd.func13, Tryd.ntmps13
 go_wp2_with (first | (go_at_call 32; refine (ref_right _ _ _ _ _ _ _ _).mono ?_; rintro r w3 ⟨rfl, hb3⟩; have T := two_step hk0 hk1 hB hl hb3; clear hk0 hk1 hB hl hb3 k0 k1 k2 k3 k4 k5 k6 l0 l1 l2 l3 l4 l5 l6; obtain ⟨hk0, hk1, hB, hl⟩ := T; obtain ⟨k0, k1, k2, k3, k4, k5, k6⟩ := cells8 hk0; obtain ⟨l0, l1, l2, l3, l4, l5, l6⟩ := cells8 hk1))
 go_ret3
 exact ⟨rfl, hB⟩
set_option maxHeartbeats 4000000 in
theorem rx_no2 (c f0 f1 c0 c1 r0 r1 x g0 g1 d0 d1 s0 s1 : Int) (hA : rightB ⟨c, f0, f1, c0, c1, r0, r1⟩ = true) (hBb : rightB ⟨x, g0, g1, d0, d1, s0, s1⟩ = false) (w : World) :
  Calls Tryd.prog 13 #[.agg #[.int .i64 c, .int .i64 f0, .int .i64 f1, .int .i64 c0, .int .i64 c1, .int .i64 r0, .int .i64 r1], .agg #[.int .i64 x, .int .i64 g0, .int .i64 g1, .int .i64 d0, .int .i64 d1, .int .i64 s0, .int .i64 s1]] w
   fun e w' => e = .returned (.tuple #[.int .i64 0, .int .i64 0, .bool false]) ∧ Below w.heap.size w w' := by
 have hB := ((Below.refl w.heap.size w).alloc (Nat.le_refl _) (.cells #[.int .i64 c, .int .i64 f0, .int .i64 f1, .int .i64 c0, .int .i64 c1, .int .i64 r0, .int .i64 r1] 25)).alloc (by simp) (.cells #[.int .i64 x, .int .i64 g0, .int .i64 g1, .int .i64 d0, .int .i64 d1, .int .i64 s0, .int .i64 s1] 25)
 have hk0 := Rf.alloc_old (.cells #[.int .i64 x, .int .i64 g0, .int .i64 g1, .int .i64 d0, .int .i64 d1, .int .i64 s0, .int .i64 s1] 25) (Rf.alloc_new w (.cells #[.int .i64 c, .int .i64 f0, .int .i64 f1, .int .i64 c0, .int .i64 c1, .int .i64 r0, .int .i64 r1] 25) rfl)
 have hk1 := Rf.alloc_new (w.alloc (.cells #[.int .i64 c, .int .i64 f0, .int .i64 f1, .int .i64 c0, .int .i64 c1, .int .i64 r0, .int .i64 r1] 25)) (.cells #[.int .i64 x, .int .i64 g0, .int .i64 g1, .int .i64 d0, .int .i64 d1, .int .i64 s0, .int .i64 s1] 25) (n := w.heap.size + 1) (by simp)
 have hl : w.heap.size + 1 < ((w.alloc (.cells #[.int .i64 c, .int .i64 f0, .int .i64 f1, .int .i64 c0, .int .i64 c1, .int .i64 r0, .int .i64 r1] 25)).alloc (.cells #[.int .i64 x, .int .i64 g0, .int .i64 g1, .int .i64 d0, .int .i64 d1, .int .i64 s0, .int .i64 s1] 25)).heap.size := by simp
 obtain ⟨k0, k1, k2, k3, k4, k5, k6⟩ := cells8 hk0
 obtain ⟨l0, l1, l2, l3, l4, l5, l6⟩ := cells8 hk1
 go_enter Tryd.func13, Tryd.ntmps13
 go_wp2_with (first | (go_at_call 32; refine (ref_right _ _ _ _ _ _ _ _).mono ?_; rintro r w3 ⟨rfl, hb3⟩; have T := two_step hk0 hk1 hB hl hb3; clear hk0 hk1 hB hl hb3 k0 k1 k2 k3 k4 k5 k6 l0 l1 l2 l3 l4 l5 l6; obtain ⟨hk0, hk1, hB, hl⟩ := T; obtain ⟨k0, k1, k2, k3, k4, k5, k6⟩ := cells8 hk0; obtain ⟨l0, l1, l2, l3, l4, l5, l6⟩ := cells8 hk1))
 go_ret3
 exact ⟨rfl, hB⟩
set_option maxHeartbeats 4000000 in
theorem rx_no3 (c f0 f1 c0 c1 r0 r1 x g0 g1 d0 d1 s0 s1 : Int) (hA : rightB ⟨c, f0, f1, c0, c1, r0, r1⟩ = true) (hBb : rightB ⟨x, g0, g1, d0, d1, s0, s1⟩ = true) (h : c ≠ x) (w : World) :
  Calls Tryd.prog 13 #[.agg #[.int .i64 c, .int .i64 f0, .int .i64 f1, .int .i64 c0, .int .i64 c1, .int .i64 r0, .int .i64 r1], .agg #[.int .i64 x, .int .i64 g0, .int .i64 g1, .int .i64 d0, .int .i64 d1, .int .i64 s0, .int .i64 s1]] w
   fun e w' => e = .returned (.tuple #[.int .i64 0, .int .i64 0, .bool false]) ∧ Below w.heap.size w w' := by
 have hh : (c == x) = false := by simpa using h
 have hB := ((Below.refl w.heap.size w).alloc (Nat.le_refl _) (.cells #[.int .i64 c, .int .i64 f0, .int .i64 f1, .int .i64 c0, .int .i64 c1, .int .i64 r0, .int .i64 r1] 25)).alloc (by simp) (.cells #[.int .i64 x, .int .i64 g0, .int .i64 g1, .int .i64 d0, .int .i64 d1, .int .i64 s0, .int .i64 s1] 25)
 have hk0 := Rf.alloc_old (.cells #[.int .i64 x, .int .i64 g0, .int .i64 g1, .int .i64 d0, .int .i64 d1, .int .i64 s0, .int .i64 s1] 25) (Rf.alloc_new w (.cells #[.int .i64 c, .int .i64 f0, .int .i64 f1, .int .i64 c0, .int .i64 c1, .int .i64 r0, .int .i64 r1] 25) rfl)
 have hk1 := Rf.alloc_new (w.alloc (.cells #[.int .i64 c, .int .i64 f0, .int .i64 f1, .int .i64 c0, .int .i64 c1, .int .i64 r0, .int .i64 r1] 25)) (.cells #[.int .i64 x, .int .i64 g0, .int .i64 g1, .int .i64 d0, .int .i64 d1, .int .i64 s0, .int .i64 s1] 25) (n := w.heap.size + 1) (by simp)
 have hl : w.heap.size + 1 < ((w.alloc (.cells #[.int .i64 c, .int .i64 f0, .int .i64 f1, .int .i64 c0, .int .i64 c1, .int .i64 r0, .int .i64 r1] 25)).alloc (.cells #[.int .i64 x, .int .i64 g0, .int .i64 g1, .int .i64 d0, .int .i64 d1, .int .i64 s0, .int .i64 s1] 25)).heap.size := by simp
 obtain ⟨k0, k1, k2, k3, k4, k5, k6⟩ := cells8 hk0
 obtain ⟨l0, l1, l2, l3, l4, l5, l6⟩ := cells8 hk1
 go_enter Tryd.func13, Tryd.ntmps13
 go_wp2_with (first | (go_at_call 32; refine (ref_right _ _ _ _ _ _ _ _).mono ?_; rintro r w3 ⟨rfl, hb3⟩; have T := two_step hk0 hk1 hB hl hb3; clear hk0 hk1 hB hl hb3 k0 k1 k2 k3 k4 k5 k6 l0 l1 l2 l3 l4 l5 l6; obtain ⟨hk0, hk1, hB, hl⟩ := T; obtain ⟨k0, k1, k2, k3, k4, k5, k6⟩ := cells8 hk0; obtain ⟨l0, l1, l2, l3, l4, l5, l6⟩ := cells8 hk1))
 go_ret3
 exact ⟨rfl, hB⟩
set_option maxHeartbeats 4000000 in
theorem rx_no4 (c f0 f1 c0 c1 r0 r1 g0 g1 d0 d1 s0 s1 : Int) (hA : rightB ⟨c, f0, f1, c0, c1, r0, r1⟩ = true) (hBb : rightB ⟨c, g0, g1, d0, d1, s0, s1⟩ = true) (h : f0 ≠ g0) (w : World) :
  Calls Tryd.prog 13 #[.agg #[.int .i64 c, .int .i64 f0, .int .i64 f1, .int .i64 c0, .int .i64 c1, .int .i64 r0, .int .i64 r1], .agg #[.int .i64 c, .int .i64 g0, .int .i64 g1, .int .i64 d0, .int .i64 d1, .int .i64 s0, .int .i64 s1]] w
   fun e w' => e = .returned (.tuple #[.int .i64 0, .int .i64 0, .bool false]) ∧ Below w.heap.size w w' := by
 have hh : (f0 == g0) = false := by simpa using h
 have hB := ((Below.refl w.heap.size w).alloc (Nat.le_refl _) (.cells #[.int .i64 c, .int .i64 f0, .int .i64 f1, .int .i64 c0, .int .i64 c1, .int .i64 r0, .int .i64 r1] 25)).alloc (by simp) (.cells #[.int .i64 c, .int .i64 g0, .int .i64 g1, .int .i64 d0, .int .i64 d1, .int .i64 s0, .int .i64 s1] 25)
 have hk0 := Rf.alloc_old (.cells #[.int .i64 c, .int .i64 g0, .int .i64 g1, .int .i64 d0, .int .i64 d1, .int .i64 s0, .int .i64 s1] 25) (Rf.alloc_new w (.cells #[.int .i64 c, .int .i64 f0, .int .i64 f1, .int .i64 c0, .int .i64 c1, .int .i64 r0, .int .i64 r1] 25) rfl)
 have hk1 := Rf.alloc_new (w.alloc (.cells #[.int .i64 c, .int .i64 f0, .int .i64 f1, .int .i64 c0, .int .i64 c1, .int .i64 r0, .int .i64 r1] 25)) (.cells #[.int .i64 c, .int .i64 g0, .int .i64 g1, .int .i64 d0, .int .i64 d1, .int .i64 s0, .int .i64 s1] 25) (n := w.heap.size + 1) (by simp)
 have hl : w.heap.size + 1 < ((w.alloc (.cells #[.int .i64 c, .int .i64 f0, .int .i64 f1, .int .i64 c0, .int .i64 c1, .int .i64 r0, .int .i64 r1] 25)).alloc (.cells #[.int .i64 c, .int .i64 g0, .int .i64 g1, .int .i64 d0, .int .i64 d1, .int .i64 s0, .int .i64 s1] 25)).heap.size := by simp
 obtain ⟨k0, k1, k2, k3, k4, k5, k6⟩ := cells8 hk0
 obtain ⟨l0, l1, l2, l3, l4, l5, l6⟩ := cells8 hk1
 go_enter Tryd.func13, Tryd.ntmps13
 go_wp2_with (first | (go_at_call 32; refine (ref_right _ _ _ _ _ _ _ _).mono ?_; rintro r w3 ⟨rfl, hb3⟩; have T := two_step hk0 hk1 hB hl hb3; clear hk0 hk1 hB hl hb3 k0 k1 k2 k3 k4 k5 k6 l0 l1 l2 l3 l4 l5 l6; obtain ⟨hk0, hk1, hB, hl⟩ := T; obtain ⟨k0, k1, k2, k3, k4, k5, k6⟩ := cells8 hk0; obtain ⟨l0, l1, l2, l3, l4, l5, l6⟩ := cells8 hk1))
 go_ret3
 exact ⟨rfl, hB⟩
set_option maxHeartbeats 4000000 in
theorem rx_no5 (c f0 f1 c0 c1 r0 r1 g1 d0 d1 s0 s1 : Int) (hA : rightB ⟨c, f0, f1, c0, c1, r0, r1⟩ = true) (hBb : rightB ⟨c, f0, g1, d0, d1, s0, s1⟩ = true) (h : f1 ≠ g1) (w : World) :
  Calls Tryd.prog 13 #[.agg #[.int .i64 c, .int .i64 f0, .int .i64 f1, .int .i64 c0, .int .i64 c1, .int .i64 r0, .int .i64 r1], .agg #[.int .i64 c, .int .i64 f0, .int .i64 g1, .int .i64 d0, .int .i64 d1, .int .i64 s0, .int .i64 s1]] w
   fun e w' => e = .returned (.tuple #[.int .i64 0, .int .i64 0, .bool false]) ∧ Below w.heap.size w w' := by
 have hh : (f1 == g1) = false := by simpa using h
 have hB := ((Below.refl w.heap.size w).alloc (Nat.le_refl _) (.cells #[.int .i64 c, .int .i64 f0, .int .i64 f1, .int .i64 c0, .int .i64 c1, .int .i64 r0, .int .i64 r1] 25)).alloc (by simp) (.cells #[.int .i64 c, .int .i64 f0, .int .i64 g1, .int .i64 d0, .int .i64 d1, .int .i64 s0, .int .i64 s1] 25)
 have hk0 := Rf.alloc_old (.cells #[.int .i64 c, .int .i64 f0, .int .i64 g1, .int .i64 d0, .int .i64 d1, .int .i64 s0, .int .i64 s1] 25) (Rf.alloc_new w (.cells #[.int .i64 c, .int .i64 f0, .int .i64 f1, .int .i64 c0, .int .i64 c1, .int .i64 r0, .int .i64 r1] 25) rfl)
 have hk1 := Rf.alloc_new (w.alloc (.cells #[.int .i64 c, .int .i64 f0, .int .i64 f1, .int .i64 c0, .int .i64 c1, .int .i64 r0, .int .i64 r1] 25)) (.cells #[.int .i64 c, .int .i64 f0, .int .i64 g1, .int .i64 d0, .int .i64 d1, .int .i64 s0, .int .i64 s1] 25) (n := w.heap.size + 1) (by simp)
 have hl : w.heap.size + 1 < ((w.alloc (.cells #[.int .i64 c, .int .i64 f0, .int .i64 f1, .int .i64 c0, .int .i64 c1, .int .i64 r0, .int .i64 r1] 25)).alloc (.cells #[.int .i64 c, .int .i64 f0, .int .i64 g1, .int .i64 d0, .int .i64 d1, .int .i64 s0, .int .i64 s1] 25)).heap.size := by simp
 obtain ⟨k0, k1, k2, k3, k4, k5, k6⟩ := cells8 hk0
 obtain ⟨l0, l1, l2, l3, l4, l5, l6⟩ := cells8 hk1
 go_enter Tryd.func13, Tryd.ntmps13
 go_wp2_with (first | (go_at_call 32; refine (ref_right _ _ _ _ _ _ _ _).mono ?_; rintro r w3 ⟨rfl, hb3⟩; have T := two_step hk0 hk1 hB hl hb3; clear hk0 hk1 hB hl hb3 k0 k1 k2 k3 k4 k5 k6 l0 l1 l2 l3 l4 l5 l6; obtain ⟨hk0, hk1, hB, hl⟩ := T; obtain ⟨k0, k1, k2, k3, k4, k5, k6⟩ := cells8 hk0; obtain ⟨l0, l1, l2, l3, l4, l5, l6⟩ := cells8 hk1))
 go_ret3
 exact ⟨rfl, hB⟩
set_option maxHeartbeats 4000000 in
theorem rx_zero (c f0 f1 c0 c1 r0 r1 d0 d1 s0 s1 : Int) (hA : rightB ⟨c, f0, f1, c0, c1, r0, r1⟩ = true) (hBb : rightB ⟨c, f0, f1, d0, d1, s0, s1⟩ = true) (h : c0 ≠ d0) (w : World) :
  Calls Tryd.prog 13 #[.agg #[.int .i64 c, .int .i64 f0, .int .i64 f1, .int .i64 c0, .int .i64 c1, .int .i64 r0, .int .i64 r1], .agg #[.int .i64 c, .int .i64 f0, .int .i64 f1, .int .i64 d0, .int .i64 d1, .int .i64 s0, .int .i64 s1]] w
   fun e w' => e = .returned (.tuple #[.int .i64 0, .int .i64 ((r0 - s0 + 1073741789) % 1073741789 * pq 1073741787 ((c0 - d0 + 1073741789) % 1073741789) % 1073741789), .bool true]) ∧ Below w.heap.size w w' := by
 obtain ⟨a0, a1, a2, a3⟩ := right_range hA
 obtain ⟨b0, b1, b2, b3⟩ := right_range hBb
 have hh : (c0 == d0) = false := by simpa using h
 have hB := ((Below.refl w.heap.size w).alloc (Nat.le_refl _) (.cells #[.int .i64 c, .int .i64 f0, .int .i64 f1, .int .i64 c0, .int .i64 c1, .int .i64 r0, .int .i64 r1] 25)).alloc (by simp) (.cells #[.int .i64 c, .int .i64 f0, .int .i64 f1, .int .i64 d0, .int .i64 d1, .int .i64 s0, .int .i64 s1] 25)
 have hk0 := Rf.alloc_old (.cells #[.int .i64 c, .int .i64 f0, .int .i64 f1, .int .i64 d0, .int .i64 d1, .int .i64 s0, .int .i64 s1] 25) (Rf.alloc_new w (.cells #[.int .i64 c, .int .i64 f0, .int .i64 f1, .int .i64 c0, .int .i64 c1, .int .i64 r0, .int .i64 r1] 25) rfl)
 have hk1 := Rf.alloc_new (w.alloc (.cells #[.int .i64 c, .int .i64 f0, .int .i64 f1, .int .i64 c0, .int .i64 c1, .int .i64 r0, .int .i64 r1] 25)) (.cells #[.int .i64 c, .int .i64 f0, .int .i64 f1, .int .i64 d0, .int .i64 d1, .int .i64 s0, .int .i64 s1] 25) (n := w.heap.size + 1) (by simp)
 have hl : w.heap.size + 1 < ((w.alloc (.cells #[.int .i64 c, .int .i64 f0, .int .i64 f1, .int .i64 c0, .int .i64 c1, .int .i64 r0, .int .i64 r1] 25)).alloc (.cells #[.int .i64 c, .int .i64 f0, .int .i64 f1, .int .i64 d0, .int .i64 d1, .int .i64 s0, .int .i64 s1] 25)).heap.size := by simp
 obtain ⟨k0, k1, k2, k3, k4, k5, k6⟩ := cells8 hk0
 obtain ⟨l0, l1, l2, l3, l4, l5, l6⟩ := cells8 hk1
 go_enter Tryd.func13, Tryd.ntmps13
 go_wp2_with (first | (go_at_call 32; refine (ref_right _ _ _ _ _ _ _ _).mono ?_; rintro r w3 ⟨rfl, hb3⟩; have T := two_step hk0 hk1 hB hl hb3; clear hk0 hk1 hB hl hb3 k0 k1 k2 k3 k4 k5 k6 l0 l1 l2 l3 l4 l5 l6; obtain ⟨hk0, hk1, hB, hl⟩ := T; obtain ⟨k0, k1, k2, k3, k4, k5, k6⟩ := cells8 hk0; obtain ⟨l0, l1, l2, l3, l4, l5, l6⟩ := cells8 hk1))
 go_loopw [7] (fun v wr => (v = .int .i64 0) ∧ Below w.heap.size w wr ∧
  wr.heap[w.heap.size]? = some (.cells #[.int .i64 c, .int .i64 f0, .int .i64 f1, .int .i64 c0, .int .i64 c1, .int .i64 r0, .int .i64 r1] 25 (0, 0)) ∧ wr.heap[w.heap.size + 1]? = some (.cells #[.int .i64 c, .int .i64 f0, .int .i64 f1, .int .i64 d0, .int .i64 d1, .int .i64 s0, .int .i64 s1] 25 (0, 0))) (fun v _ => 2 - (intOf v).toNat)
 case atStart => exact ⟨rfl, hB, hk0, hk1⟩
 case round =>
  clear k0 k1 k2 k3 k4 k5 k6 l0 l1 l2 l3 l4 l5 l6 hB hk0 hk1 hl
  obtain ⟨hv, hB, hk0, hk1⟩ := hrel
  obtain ⟨k0, k1, k2, k3, k4, k5, k6⟩ := cells8 hk0
  obtain ⟨l0, l1, l2, l3, l4, l5, l6⟩ := cells8 hk1
  subst hv
  have q1 : IntKind.i64.wrap (r0 + 1073741789) = r0 + 1073741789 := IntWalk.i64_in _ (by omega)
  have q1' : IntKind.i64.wrap (r0 + 1073741789 - s0) = r0 + 1073741789 - s0 := IntWalk.i64_in _ (by omega)
  have pq1 : 0 ≤ r0 + 1073741789 - s0 := by omega
  have q3 : IntKind.i64.wrap (c0 + 1073741789) = c0 + 1073741789 := IntWalk.i64_in _ (by omega)
  have q3' : IntKind.i64.wrap (c0 + 1073741789 - d0) = c0 + 1073741789 - d0 := IntWalk.i64_in _ (by omega)
  have pq3 : 0 ≤ c0 + 1073741789 - d0 := by omega
  go_wp2
  go_region
  go_wp2
  go_region
  go_wp2
  go_region
  skip
  replace hB := hB.drew.drew.drew
  have eU : (r0 + 1073741789 - s0) % 1073741789 = (r0 - s0 + 1073741789) % 1073741789 := by omega
  have eV : (c0 + 1073741789 - d0) % 1073741789 = (c0 - d0 + 1073741789) % 1073741789 := by omega
  try rw [eU]
  try rw [eV]
  clear eU eV q1 q1' q3 q3' pq1 pq3 k0 k1 k2 k3 k4 k5 k6 l0 l1 l2 l3 l4 l5 l6 hk0 hk1
  have w1U : 0 ≤ (r0 - s0 + 1073741789) % 1073741789 ∧ (r0 - s0 + 1073741789) % 1073741789 < 1073741789 := by omega
  have w1V : 0 ≤ (c0 - d0 + 1073741789) % 1073741789 ∧ (c0 - d0 + 1073741789) % 1073741789 < 1073741789 := by omega
  obtain ⟨U, hU⟩ : ∃ U, (r0 - s0 + 1073741789) % 1073741789 = U := ⟨_, rfl⟩
  obtain ⟨V, hV⟩ : ∃ V, (c0 - d0 + 1073741789) % 1073741789 = V := ⟨_, rfl⟩
  rw [hU] at w1U ⊢
  rw [hV] at w1V ⊢
  have HU := Lib.hid hU
  have HV := Lib.hid hV
  have hcall := refQ V 1073741787 ⟨w1V.1, w1V.2, by decide, by decide⟩
  have hpr := pq_range 1073741787 V
  rw [show (1073741787 : Int).toNat = 1073741787 from rfl] at hcall
  obtain ⟨P, hP⟩ : ∃ P, pq 1073741787 V = P := ⟨_, rfl⟩
  rw [hP] at hcall hpr
  have HP := Lib.hid hP
  have hM0 : 0 ≤ U * P := Int.mul_nonneg w1U.1 hpr.1
  have hM1 : U * P ≤ 1073741789 * 1073741789 := Int.mul_le_mul (by omega) (by omega) hpr.1 (by decide)
  obtain ⟨M, hM⟩ : ∃ M, U * P = M := ⟨_, rfl⟩
  rw [hM] at hM0 hM1
  have q5 : IntKind.i64.wrap M = M := IntWalk.i64_in _ (by omega)
  have HM := Lib.hid hM
  clear hU hV hP
  go_wp2_with (first | (go_at_call 33; refine (hcall _).mono ?_; rintro r w2 ⟨rfl, hb2⟩; replace hB := hB.trans (hb2.mono hB.size)))
  go_ret3
  exact ⟨by rw [HU.out, HV.out, HP.out, HM.out]; rfl, hB⟩
set_option maxHeartbeats 4000000 in
theorem rx_one (c f0 f1 c0 c1 r0 r1 d1 s0 s1 : Int) (hA : rightB ⟨c, f0, f1, c0, c1, r0, r1⟩ = true) (hBb : rightB ⟨c, f0, f1, c0, d1, s0, s1⟩ = true) (h : c1 ≠ d1) (w : World) :
  Calls Tryd.prog 13 #[.agg #[.int .i64 c, .int .i64 f0, .int .i64 f1, .int .i64 c0, .int .i64 c1, .int .i64 r0, .int .i64 r1], .agg #[.int .i64 c, .int .i64 f0, .int .i64 f1, .int .i64 c0, .int .i64 d1, .int .i64 s0, .int .i64 s1]] w
   fun e w' => e = .returned (.tuple #[.int .i64 1, .int .i64 ((r1 - s1 + 1073741789) % 1073741789 * pq 1073741787 ((c1 - d1 + 1073741789) % 1073741789) % 1073741789), .bool true]) ∧ Below w.heap.size w w' := by
 obtain ⟨a0, a1, a2, a3⟩ := right_range hA
 obtain ⟨b0, b1, b2, b3⟩ := right_range hBb
 have hh : (c1 == d1) = false := by simpa using h
 have hB := ((Below.refl w.heap.size w).alloc (Nat.le_refl _) (.cells #[.int .i64 c, .int .i64 f0, .int .i64 f1, .int .i64 c0, .int .i64 c1, .int .i64 r0, .int .i64 r1] 25)).alloc (by simp) (.cells #[.int .i64 c, .int .i64 f0, .int .i64 f1, .int .i64 c0, .int .i64 d1, .int .i64 s0, .int .i64 s1] 25)
 have hk0 := Rf.alloc_old (.cells #[.int .i64 c, .int .i64 f0, .int .i64 f1, .int .i64 c0, .int .i64 d1, .int .i64 s0, .int .i64 s1] 25) (Rf.alloc_new w (.cells #[.int .i64 c, .int .i64 f0, .int .i64 f1, .int .i64 c0, .int .i64 c1, .int .i64 r0, .int .i64 r1] 25) rfl)
 have hk1 := Rf.alloc_new (w.alloc (.cells #[.int .i64 c, .int .i64 f0, .int .i64 f1, .int .i64 c0, .int .i64 c1, .int .i64 r0, .int .i64 r1] 25)) (.cells #[.int .i64 c, .int .i64 f0, .int .i64 f1, .int .i64 c0, .int .i64 d1, .int .i64 s0, .int .i64 s1] 25) (n := w.heap.size + 1) (by simp)
 have hl : w.heap.size + 1 < ((w.alloc (.cells #[.int .i64 c, .int .i64 f0, .int .i64 f1, .int .i64 c0, .int .i64 c1, .int .i64 r0, .int .i64 r1] 25)).alloc (.cells #[.int .i64 c, .int .i64 f0, .int .i64 f1, .int .i64 c0, .int .i64 d1, .int .i64 s0, .int .i64 s1] 25)).heap.size := by simp
 obtain ⟨k0, k1, k2, k3, k4, k5, k6⟩ := cells8 hk0
 obtain ⟨l0, l1, l2, l3, l4, l5, l6⟩ := cells8 hk1
 go_enter Tryd.func13, Tryd.ntmps13
 go_wp2_with (first | (go_at_call 32; refine (ref_right _ _ _ _ _ _ _ _).mono ?_; rintro r w3 ⟨rfl, hb3⟩; have T := two_step hk0 hk1 hB hl hb3; clear hk0 hk1 hB hl hb3 k0 k1 k2 k3 k4 k5 k6 l0 l1 l2 l3 l4 l5 l6; obtain ⟨hk0, hk1, hB, hl⟩ := T; obtain ⟨k0, k1, k2, k3, k4, k5, k6⟩ := cells8 hk0; obtain ⟨l0, l1, l2, l3, l4, l5, l6⟩ := cells8 hk1))
 go_loopw [7] (fun v wr => (v = .int .i64 0 ∨ v = .int .i64 1) ∧ Below w.heap.size w wr ∧
  wr.heap[w.heap.size]? = some (.cells #[.int .i64 c, .int .i64 f0, .int .i64 f1, .int .i64 c0, .int .i64 c1, .int .i64 r0, .int .i64 r1] 25 (0, 0)) ∧ wr.heap[w.heap.size + 1]? = some (.cells #[.int .i64 c, .int .i64 f0, .int .i64 f1, .int .i64 c0, .int .i64 d1, .int .i64 s0, .int .i64 s1] 25 (0, 0))) (fun v _ => 2 - (intOf v).toNat)
 case atStart => exact ⟨.inl rfl, hB, hk0, hk1⟩
 case round =>
  clear k0 k1 k2 k3 k4 k5 k6 l0 l1 l2 l3 l4 l5 l6 hB hk0 hk1 hl
  obtain ⟨hv, hB, hk0, hk1⟩ := hrel
  obtain ⟨k0, k1, k2, k3, k4, k5, k6⟩ := cells8 hk0
  obtain ⟨l0, l1, l2, l3, l4, l5, l6⟩ := cells8 hk1
  rcases hv with rfl | rfl
  ·go_wp2
   go_region
   go_wp2
   exact ⟨⟨.inr rfl, hB.drew, hk0, hk1⟩, by simp [intOf]⟩
  ·skip
   have q1 : IntKind.i64.wrap (r1 + 1073741789) = r1 + 1073741789 := IntWalk.i64_in _ (by omega)
   have q1' : IntKind.i64.wrap (r1 + 1073741789 - s1) = r1 + 1073741789 - s1 := IntWalk.i64_in _ (by omega)
   have pq1 : 0 ≤ r1 + 1073741789 - s1 := by omega
   have q3 : IntKind.i64.wrap (c1 + 1073741789) = c1 + 1073741789 := IntWalk.i64_in _ (by omega)
   have q3' : IntKind.i64.wrap (c1 + 1073741789 - d1) = c1 + 1073741789 - d1 := IntWalk.i64_in _ (by omega)
   have pq3 : 0 ≤ c1 + 1073741789 - d1 := by omega
   go_wp2
   go_region
   go_wp2
   go_region
   go_wp2
   go_region
   skip
   replace hB := hB.drew.drew.drew
   have eU : (r1 + 1073741789 - s1) % 1073741789 = (r1 - s1 + 1073741789) % 1073741789 := by omega
   have eV : (c1 + 1073741789 - d1) % 1073741789 = (c1 - d1 + 1073741789) % 1073741789 := by omega
   try rw [eU]
   try rw [eV]
   clear eU eV q1 q1' q3 q3' pq1 pq3 k0 k1 k2 k3 k4 k5 k6 l0 l1 l2 l3 l4 l5 l6 hk0 hk1
   have w1U : 0 ≤ (r1 - s1 + 1073741789) % 1073741789 ∧ (r1 - s1 + 1073741789) % 1073741789 < 1073741789 := by omega
   have w1V : 0 ≤ (c1 - d1 + 1073741789) % 1073741789 ∧ (c1 - d1 + 1073741789) % 1073741789 < 1073741789 := by omega
   obtain ⟨U, hU⟩ : ∃ U, (r1 - s1 + 1073741789) % 1073741789 = U := ⟨_, rfl⟩
   obtain ⟨V, hV⟩ : ∃ V, (c1 - d1 + 1073741789) % 1073741789 = V := ⟨_, rfl⟩
   rw [hU] at w1U ⊢
   rw [hV] at w1V ⊢
   have HU := Lib.hid hU
   have HV := Lib.hid hV
   have hcall := refQ V 1073741787 ⟨w1V.1, w1V.2, by decide, by decide⟩
   have hpr := pq_range 1073741787 V
   rw [show (1073741787 : Int).toNat = 1073741787 from rfl] at hcall
   obtain ⟨P, hP⟩ : ∃ P, pq 1073741787 V = P := ⟨_, rfl⟩
   rw [hP] at hcall hpr
   have HP := Lib.hid hP
   have hM0 : 0 ≤ U * P := Int.mul_nonneg w1U.1 hpr.1
   have hM1 : U * P ≤ 1073741789 * 1073741789 := Int.mul_le_mul (by omega) (by omega) hpr.1 (by decide)
   obtain ⟨M, hM⟩ : ∃ M, U * P = M := ⟨_, rfl⟩
   rw [hM] at hM0 hM1
   have q5 : IntKind.i64.wrap M = M := IntWalk.i64_in _ (by omega)
   have HM := Lib.hid hM
   clear hU hV hP
   go_wp2_with (first | (go_at_call 33; refine (hcall _).mono ?_; rintro r w2 ⟨rfl, hb2⟩; replace hB := hB.trans (hb2.mono hB.size)))
   go_ret3
   exact ⟨by rw [HU.out, HV.out, HP.out, HM.out]; rfl, hB⟩
set_option maxHeartbeats 4000000 in
theorem rx_no6 (c f0 f1 c0 c1 r0 r1 s0 s1 : Int) (hA : rightB ⟨c, f0, f1, c0, c1, r0, r1⟩ = true) (hBb : rightB ⟨c, f0, f1, c0, c1, s0, s1⟩ = true) (w : World) :
  Calls Tryd.prog 13 #[.agg #[.int .i64 c, .int .i64 f0, .int .i64 f1, .int .i64 c0, .int .i64 c1, .int .i64 r0, .int .i64 r1], .agg #[.int .i64 c, .int .i64 f0, .int .i64 f1, .int .i64 c0, .int .i64 c1, .int .i64 s0, .int .i64 s1]] w
   fun e w' => e = .returned (.tuple #[.int .i64 0, .int .i64 0, .bool false]) ∧ Below w.heap.size w w' := by
 have hB := ((Below.refl w.heap.size w).alloc (Nat.le_refl _) (.cells #[.int .i64 c, .int .i64 f0, .int .i64 f1, .int .i64 c0, .int .i64 c1, .int .i64 r0, .int .i64 r1] 25)).alloc (by simp) (.cells #[.int .i64 c, .int .i64 f0, .int .i64 f1, .int .i64 c0, .int .i64 c1, .int .i64 s0, .int .i64 s1] 25)
 have hk0 := Rf.alloc_old (.cells #[.int .i64 c, .int .i64 f0, .int .i64 f1, .int .i64 c0, .int .i64 c1, .int .i64 s0, .int .i64 s1] 25) (Rf.alloc_new w (.cells #[.int .i64 c, .int .i64 f0, .int .i64 f1, .int .i64 c0, .int .i64 c1, .int .i64 r0, .int .i64 r1] 25) rfl)
 have hk1 := Rf.alloc_new (w.alloc (.cells #[.int .i64 c, .int .i64 f0, .int .i64 f1, .int .i64 c0, .int .i64 c1, .int .i64 r0, .int .i64 r1] 25)) (.cells #[.int .i64 c, .int .i64 f0, .int .i64 f1, .int .i64 c0, .int .i64 c1, .int .i64 s0, .int .i64 s1] 25) (n := w.heap.size + 1) (by simp)
 have hl : w.heap.size + 1 < ((w.alloc (.cells #[.int .i64 c, .int .i64 f0, .int .i64 f1, .int .i64 c0, .int .i64 c1, .int .i64 r0, .int .i64 r1] 25)).alloc (.cells #[.int .i64 c, .int .i64 f0, .int .i64 f1, .int .i64 c0, .int .i64 c1, .int .i64 s0, .int .i64 s1] 25)).heap.size := by simp
 obtain ⟨k0, k1, k2, k3, k4, k5, k6⟩ := cells8 hk0
 obtain ⟨l0, l1, l2, l3, l4, l5, l6⟩ := cells8 hk1
 go_enter Tryd.func13, Tryd.ntmps13
 go_wp2_with (first | (go_at_call 32; refine (ref_right _ _ _ _ _ _ _ _).mono ?_; rintro r w3 ⟨rfl, hb3⟩; have T := two_step hk0 hk1 hB hl hb3; clear hk0 hk1 hB hl hb3 k0 k1 k2 k3 k4 k5 k6 l0 l1 l2 l3 l4 l5 l6; obtain ⟨hk0, hk1, hB, hl⟩ := T; obtain ⟨k0, k1, k2, k3, k4, k5, k6⟩ := cells8 hk0; obtain ⟨l0, l1, l2, l3, l4, l5, l6⟩ := cells8 hk1))
 go_loopw [7] (fun v wr => (v = .int .i64 0 ∨ v = .int .i64 1 ∨ v = .int .i64 2) ∧ Below w.heap.size w wr ∧
  wr.heap[w.heap.size]? = some (.cells #[.int .i64 c, .int .i64 f0, .int .i64 f1, .int .i64 c0, .int .i64 c1, .int .i64 r0, .int .i64 r1] 25 (0, 0)) ∧ wr.heap[w.heap.size + 1]? = some (.cells #[.int .i64 c, .int .i64 f0, .int .i64 f1, .int .i64 c0, .int .i64 c1, .int .i64 s0, .int .i64 s1] 25 (0, 0))) (fun v _ => 2 - (intOf v).toNat)
 case atStart => exact ⟨.inl rfl, hB, hk0, hk1⟩
 case round =>
  clear k0 k1 k2 k3 k4 k5 k6 l0 l1 l2 l3 l4 l5 l6 hB hk0 hk1 hl
  obtain ⟨hv, hB, hk0, hk1⟩ := hrel
  obtain ⟨k0, k1, k2, k3, k4, k5, k6⟩ := cells8 hk0
  obtain ⟨l0, l1, l2, l3, l4, l5, l6⟩ := cells8 hk1
  rcases hv with rfl | rfl | rfl
  ·go_wp2
   go_region
   go_wp2
   exact ⟨⟨.inr (.inl rfl), hB.drew, hk0, hk1⟩, by simp [intOf]⟩
  ·go_wp2
   go_region
   go_wp2
   exact ⟨⟨.inr (.inr rfl), hB.drew, hk0, hk1⟩, by simp [intOf]⟩
  ·go_wp2
   go_ret3
   exact ⟨rfl, hB⟩
-- GENRF4
end Go.Proofs.YtnlgnmlobklobaaDoor.Com
namespace Go.Proofs.YtnlgnmlobklobaaDoor.Stub
open Go.RowKit Go.Proofs.YtnlgnmlobklobaaDoor Go.Proofs.YtnlgnmlobklobaaDoor.Com Go.Proofs.YtnlgnmlobklobaaDoor.Hash
def wageofficeref27_Right.f (c f0 f1 c0 c1 r0 r1 : Int) : Option Bool := some (rightB ⟨c, f0, f1, c0, c1, r0, r1⟩)
theorem wageofficeref27_Right.calls (c f0 f1 c0 c1 r0 r1 : Int) (r : Bool) (w : World) (h : wageofficeref27_Right.f c f0 f1 c0 c1 r0 r1 = some r) :
  Calls Tryd.prog 32 #[.agg #[.int .i64 c, .int .i64 f0, .int .i64 f1, .int .i64 c0, .int .i64 c1, .int .i64 r0, .int .i64 r1]] w fun e w' => e = .returned (.bool r) ∧ Below w.heap.size w w' := by
 cases h
 exact ref_right c f0 f1 c0 c1 r0 r1 w
def wageofficeref27_bit.f (a0 a1 : Int) (a2 : ByteArray) (a3 : Int) : Option (Int × Int × Int × Int × Int × Int × Int) := if bitOk a0 a1 a2 a3 = true then some (tup (bitP a0 a1 a2 a3)) else none
theorem wageofficeref27_bit.calls (a0 a1 : Int) (a2 : ByteArray) (a3 : Int) (r1 r2 r3 r4 r5 r6 r7 : Int) (w : World) (h : wageofficeref27_bit.f a0 a1 a2 a3 = some (r1, r2, r3, r4, r5, r6, r7)) :
  Calls Tryd.prog 29 #[.int .i64 a0, .int .i64 a1, .string a2, .int .i64 a3] w fun e w' => e = .returned (.agg #[.int .i64 r1, .int .i64 r2, .int .i64 r3, .int .i64 r4, .int .i64 r5, .int .i64 r6, .int .i64 r7]) ∧ Below w.heap.size w w' := by
 unfold wageofficeref27_bit.f at h
 split at h
 ·rename_i hs
  unfold bitOk at hs
  simp only [Bool.and_eq_true, decide_eq_true_eq] at hs
  obtain ⟨⟨⟨h0, h1⟩, h2⟩, h3⟩ := hs
  unfold bitP tup at h
  rcases h0 with rfl | rfl
  ·rw [if_pos rfl] at h
   cases h
   exact ref_bit0 a1 a3 a2 h1 h3 h2 w
  ·rw [if_neg (by decide)] at h
   cases h
   exact ref_bit1 a1 a3 a2 h1 h3 h2 w
 ·cases h
def wageofficeref27_Extract.f (c f0 f1 c0 c1 r0 r1 x g0 g1 d0 d1 s0 s1 : Int) : Option (Int × Int × Bool) := some (extrP c f0 f1 c0 c1 r0 r1 x g0 g1 d0 d1 s0 s1)
theorem wageofficeref27_Extract.calls (c f0 f1 c0 c1 r0 r1 x g0 g1 d0 d1 s0 s1 : Int) (t1 t2 : Int) (t3 : Bool) (w : World) (h : wageofficeref27_Extract.f c f0 f1 c0 c1 r0 r1 x g0 g1 d0 d1 s0 s1 = some (t1, t2, t3)) :
  Calls Tryd.prog 13 #[.agg #[.int .i64 c, .int .i64 f0, .int .i64 f1, .int .i64 c0, .int .i64 c1, .int .i64 r0, .int .i64 r1], .agg #[.int .i64 x, .int .i64 g0, .int .i64 g1, .int .i64 d0, .int .i64 d1, .int .i64 s0, .int .i64 s1]] w
   fun e w' => e = .returned (.tuple #[.int .i64 t1, .int .i64 t2, .bool t3]) ∧ Below w.heap.size w w' := by
 have h := Option.some.inj h
 unfold extrP at h
 by_cases hA : rightB ⟨c, f0, f1, c0, c1, r0, r1⟩ = true
 ·by_cases hB : rightB ⟨x, g0, g1, d0, d1, s0, s1⟩ = true
  ·by_cases e1 : c = x
   ·subst e1
    by_cases e2 : f0 = g0
    ·subst e2
     by_cases e3 : f1 = g1
     ·subst e3
      rw [if_pos ⟨rfl, rfl, rfl, hA, hB⟩] at h
      by_cases e4 : c0 = d0
      ·subst e4
       rw [if_neg (by simp)] at h
       by_cases e5 : c1 = d1
       ·subst e5
        rw [if_neg (by simp)] at h
        cases h
        exact rx_no6 c f0 f1 c0 c1 r0 r1 s0 s1 hA hB w
       ·rw [if_pos e5] at h
        cases h
        exact rx_one c f0 f1 c0 c1 r0 r1 d1 s0 s1 hA hB e5 w
      ·rw [if_pos e4] at h
       cases h
       exact rx_zero c f0 f1 c0 c1 r0 r1 d0 d1 s0 s1 hA hB e4 w
     ·rw [if_neg (fun z => e3 z.2.2.1)] at h
      cases h
      exact rx_no5 c f0 f1 c0 c1 r0 r1 g1 d0 d1 s0 s1 hA hB e3 w
    ·rw [if_neg (fun z => e2 z.2.1)] at h
     cases h
     exact rx_no4 c f0 f1 c0 c1 r0 r1 g0 g1 d0 d1 s0 s1 hA hB e2 w
   ·rw [if_neg (fun z => e1 z.1)] at h
    cases h
    exact rx_no3 c f0 f1 c0 c1 r0 r1 x g0 g1 d0 d1 s0 s1 hA hB e1 w
  ·rw [if_neg (fun z => hB z.2.2.2.2)] at h
   cases h
   exact rx_no2 c f0 f1 c0 c1 r0 r1 x g0 g1 d0 d1 s0 s1 hA (by simpa using hB) w
 ·rw [if_neg (fun z => hA z.2.2.2.1)] at h
  cases h
  exact rx_no1 c f0 f1 c0 c1 r0 r1 x g0 g1 d0 d1 s0 s1 (by simpa using hA) w
end Go.Proofs.YtnlgnmlobklobaaDoor.Stub
