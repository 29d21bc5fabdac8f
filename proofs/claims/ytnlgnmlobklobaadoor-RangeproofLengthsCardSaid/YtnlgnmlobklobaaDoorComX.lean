/- Package commitment: the iterator squares and Power, walked together. commitment.Commit and what it calls; the powers of package rangeproof. rangeproof.sides and the two closures that it hands out. rangeproof.isRight walked. commitment.Commit outside its bounds; Open. commitment.isElement and Add. rangeproof.powerQ walked. rangeproof.Extract walked. rangeproof.Extract walked: the ways that find nothing. '==' of two bit proofs, as one Bool. -/
import Derived.Test.YtnlgnmlobklobaaDoorGrpX
import Derived.RangeFuncNested
import Derived.RangeFuncBound
import Derived.RangeFuncCalls
import Derived.RangeFuncLeaves
import Derived.Shelf.Abstract
import Derived.Shelf.RegionOpen
import Derived.WalkKit
import Derived.WalkMore
import Derived.OwnWalkIn
import Derived.TacticsInMore
import Derived.LoopNIn
import Derived.LoopIn
import Derived.IntWalk
import Derived.Deep.RegionHeld3
import Derived.Lib.Hide
import Derived.Lib.RabinKarpLaws
import Derived.ChangeKeysEq
import Derived.Test.YtnlgnmlobklobaaDoorWEqStruct
set_option linter.unusedSimpArgs false
set_option linter.unusedVariables false
set_option maxRecDepth 100000
namespace Go.Proofs.YtnlgnmlobklobaaDoor.Com
open Go.RowKit Go.Shelf Go.Proofs.YtnlgnmlobklobaaDoor
attribute [local go_sem] Oper.semAt_some
def boxOf (B : Nat) (W : World) : Nat := match W.cell? ⟨B, 0, none⟩ with | some (.int _ n) => n.toNat | _ => 0
/-- The iterator's boxes: base and exponent. -/
def St (B : Nat) (W : World) (b e : Nat) : Prop := Boxed W B 3 (.int .i64 (b : Int)) ∧ Boxed W (B + 1) 3 (.int .i64 (e : Int))
def Rel (B n1 : Nat) (J : Nat → World → Prop) (res : Nat) (W : World) : Prop :=
  ∃ (b e acc : Nat), acc * b ^ e % 2147483579 = res ∧ b < 2147483579 ∧ e < 9223372036854775808 ∧ acc < 2147483579 ∧ St B W b e ∧ J acc W ∧ n1 ≤ W.heap.size
theorem St.below {B n1 : Nat} {W W' : World} {b e : Nat} (h : St B W b e) (hb : Below n1 W W') (hn : B + 2 ≤ n1) : St B W' b e := ⟨(hb.block _ (by omega)).trans h.1, (hb.block _ (by omega)).trans h.2⟩
theorem turned {B n1 : Nat} {J : Nat → World → Prop} (hJ : ∀ acc W W', J acc W → Below B W W' → (∀ k, n1 ≤ k → k < W.heap.size → W'.heap[k]? = W.heap[k]?) → J acc W') (hBn : B + 2 ≤ n1)
    {W : World} {b e acc : Nat} (h : St B W b e) (hj : J acc W) (b' e' : Nat) :
    ∃ W', (W.setCell ⟨B, 0, none⟩ (.int .i64 (b' : Int))).setCell ⟨B + 1, 0, none⟩ (.int .i64 (e' : Int)) = W' ∧ St B W' b' e' ∧ J acc W' ∧ W'.heap.size = W.heap.size := by
  have hb : Below B W ((W.setCell ⟨B, 0, none⟩ (.int .i64 (b' : Int))).setCell ⟨B + 1, 0, none⟩ (.int .i64 (e' : Int))) := ((Below.refl B W).setCell (p := ⟨B, 0, none⟩) (Nat.le_refl _) _).setCell (p := ⟨B + 1, 0, none⟩) (by simp) _
  refine ⟨_, rfl, ⟨(h.1.set (.int .i64 (b' : Int))).other (by omega) _, (h.2.other (by omega) _).set _⟩, hJ _ _ _ hj hb (fun k h1 _ => ?_), by rw [Rf.size_set, Rf.size_set]⟩
  rw [Below.heap_setCell _ _ _ _ (show k ≠ B + 1 by omega), Below.heap_setCell _ _ _ _ (show k ≠ B by omega)]
set_option maxHeartbeats 2000000 in
theorem squares1_any (l B n1 n : Nat) (hn : 5 ≤ n) (w : World) (hBn : B + 2 ≤ n1) (hnw : n1 ≤ w.heap.size) (J : Nat → World → Prop)
    (hJ : ∀ acc W W', J acc W → Below B W W' → (∀ k, n1 ≤ k → k < W.heap.size → W'.heap[k]? = W.heap[k]?) → J acc W')
    (hY : ∀ (acc b : Nat) (s : Bool) (W : World), J acc W → b < 2147483579 → acc < 2147483579 → YieldAt Fence.wide (n - 1) Tryd.prog l #[.int .i64 (b : Int), .bool s] W fun e W' => e = .returned (.bool true) ∧ J (if s = true then acc * b % 2147483579 else acc) W' ∧ W'.heap[B]? = W.heap[B]? ∧ W'.heap[B + 1]? = W.heap[B + 1]? ∧ W.heap.size ≤ W'.heap.size)
    (b e : Nat) (hb : b < 2147483579) (he : e < 9223372036854775808) (hst : St B w b e) (h0 : J 1 w) :
    CallsIn Fence.wide n Tryd.prog 60 #[.func (.yield l) #[] #[], .pointer (some ⟨B + 1, 0, none⟩), .pointer (some ⟨B, 0, none⟩)] w
      fun r w' => (∃ v, r = .returned v) ∧ J (Grp.pw b e) w' := by
  obtain ⟨b1, b2⟩ := hst
  have c1 := b1.cell; have c2 := b2.cell
  refine callsIn_of_wp Tryd.func60 rfl trivial ?_ rfl
  simp only [Tryd.ntmps60, List.size_toArray, List.length_cons, List.length_nil, Nat.reduceAdd, Nat.reduceSub, Array.replicate_succ, Array.replicate_zero, List.push_toArray, List.append_toArray, List.nil_append, List.cons_append]
  gi_wp2
  gi_loopw [] (fun wr => Rel B n1 J (Grp.pw b e) wr) (fun wr => boxOf (B + 1) wr)
  case atStart => exact ⟨b, e, 1, by rw [Nat.one_mul]; rfl, hb, he, by decide, ⟨b1, b2⟩, h0, hnw⟩
  case round =>
    obtain ⟨b3, e3, acc, hres, hb3, he3, hacc, hst3, hJ3, hnw3⟩ := hrel
    have HRES := Lib.hid hres
    clear hres b1 b2 c1 c2
    have d1 := hst3.1.cell; have d2 := hst3.2.cell
    by_cases h1 : 0 < e3
    · have h1i : (e3 : Int) > 0 := by omega
      have hand := Go.Proofs.and_one e3 he3
      obtain ⟨fn, tmps, assign, body, hy, hR⟩ := hY acc b3 ((e3 : Int) % 2 == 1) wr hJ3 hb3 hacc
      gi_wp2
      refine ⟨fun _ => by omega, hR.mono ?_⟩
      rintro r W1 ⟨rfl, hJ4, hk0, hk1, hks⟩
      have hst4 : St B W1 b3 e3 := ⟨hk0.trans hst3.1, hk1.trans hst3.2⟩
      have hnw4 := Nat.le_trans hnw3 hks
      have hsz0 : boxOf (B + 1) wr = e3 := by simp [boxOf, hst3.2.cell]
      have HSZ := Lib.hid hsz0
      clear hY hy hR hst3 d1 d2 hsz0 hk0 hk1 hks hJ3
      have d1 := hst4.1.cell; have d2 := hst4.2.cell; have f1 := hst4.1.frozen; have f2 := hst4.2.frozen
      have hbb : (b3 : Int) * (b3 : Int) = ((b3 * b3 : Nat) : Int) := by rw [Int.natCast_mul]
      have hbl : b3 * b3 < 4611686018427387904 := Nat.lt_of_le_of_lt (Nat.mul_le_mul (Nat.le_of_lt hb3) (Nat.le_of_lt hb3)) (by decide)
      obtain ⟨sq, hsq⟩ : ∃ s, b3 * b3 = s := ⟨_, rfl⟩
      rw [hsq] at hbb hbl
      have HSQ := Lib.hid hsq
      clear hsq
      have q5 : IntKind.i64.wrap (sq : Int) = (sq : Int) := IntWalk.i64_in _ (by omega)
      have hJ5 : J (if e3 % 2 = 1 then acc * b3 % 2147483579 else acc) W1 := by
        have e1 : ((e3 : Int) % 2 == 1) = decide (e3 % 2 = 1) := by
          by_cases h : e3 % 2 = 1
          · rw [decide_eq_true h, beq_iff_eq]; omega
          · rw [decide_eq_false h, beq_eq_false_iff_ne]; omega
        rw [e1] at hJ4
        by_cases h : e3 % 2 = 1
        · rw [if_pos h]; rw [decide_eq_true h, if_pos rfl] at hJ4; exact hJ4
        · rw [if_neg h]; rw [decide_eq_false h, if_neg (by decide)] at hJ4; exact hJ4
      clear hJ4
      gi_wp2
      obtain ⟨W5, hW5, k1, k2, k3⟩ := turned hJ hBn hst4 hJ5 (sq % 2147483579) (e3 / 2)
      rw [show ((sq % 2147483579 : Nat) : Int) = (sq : Int) % 2147483579 from rfl, show ((e3 / 2 : Nat) : Int) = (e3 : Int) / 2 from rfl] at hW5
      rw [hW5]
      have hst := Grp.fp_step 2147483579 b3 e3 acc h1 hacc
      rw [HSQ.out] at hst
      refine ⟨⟨sq % 2147483579, e3 / 2, _, hst.trans HRES.out, Nat.mod_lt _ (by decide), by omega, ?_, k1, k2, by omega⟩, ?_⟩
      · split
        · exact Nat.mod_lt _ (by decide)
        · exact hacc
      · rw [HSZ.out]
        have : boxOf (B + 1) W5 = e3 / 2 := by simp [boxOf, k1.2.cell]; omega
        rw [this]; omega
    · obtain rfl : e3 = 0 := by omega
      have hres := HRES.out
      rw [Nat.pow_zero, Nat.mul_one, Nat.mod_eq_of_lt hacc] at hres
      gi_wp2
      go_end0
      exact ⟨⟨_, rfl⟩, hres ▸ hJ3⟩
theorem squares_any (b e : Int) (w : World) : Calls Tryd.prog 39 #[.int .i64 b, .int .i64 e] w fun r w' =>
    r = .returned (.func (.func 60) #[] #[.pointer (some ⟨w.heap.size + 1, 0, none⟩), .pointer (some ⟨w.heap.size, 0, none⟩)]) ∧ w' = (w.alloc (.cells #[.int .i64 b] 3)).alloc (.cells #[.int .i64 e] 3) := by
  go_enter Tryd.func39, Tryd.ntmps39
  go_wp2
  go_ret
  exact ⟨by simp, rfl⟩
theorem put_far (W : World) (l : Nat) (o : Obj) (k : Nat) (h : k ≠ l) : (W.putObj l o).heap[k]? = W.heap[k]? := by
  have hs := Rf.size_put W l o
  by_cases hlt : k < W.heap.size
  · exact (grownBy_putObj' W l o).block k hlt (fun e => h (by cases e; rfl))
  · rw [Array.getElem?_eq_none (by omega), Array.getElem?_eq_none (by omega)]
def JPow (w : World) (R : Obj) (acc : Nat) (W : World) : Prop :=
  Boxed W w.heap.size 3 (.int .i64 (acc : Int)) ∧ W.heap[w.heap.size + 3]? = some (.deferred (some [])) ∧ W.heap[w.heap.size + 4]? = some R ∧ Below w.heap.size w W ∧ w.heap.size + 5 ≤ W.heap.size
set_option maxHeartbeats 2000000 in
theorem power_ok (b e : Nat) (hb : b < 2147483579) (he : e < 9223372036854775808) (w : World) :
    Calls Tryd.prog 18 #[.int .i64 (b : Int), .int .i64 (e : Int)] w fun r w' => r = .returned (.int .i64 (Grp.pw b e : Int)) ∧ Below w.heap.size w w' := by
  refine (callsIn_wide (n := 8)).1 ?_
  refine callsIn_of_wp_marks Tryd.func18 rfl trivial ?_ rfl
  simp only [Tryd.ntmps18, List.size_toArray, List.length_cons, List.length_nil, Nat.reduceAdd, Nat.reduceSub, Array.replicate_succ, Array.replicate_zero, List.push_toArray, List.append_toArray, List.nil_append, List.cons_append]
  have g1 : ¬ ((b : Int) < 0) := by omega
  have g2 : ¬ ((b : Int) ≥ 2147483579) := by omega
  have g3 : ¬ ((e : Int) < 0) := by omega
  gi_wp2_with (first | (refine ⟨trivial, ?_⟩; gi_at_call 39; refine (callsIn_wide.2 (squares_any _ _ _)).mono ?_; rintro e w' ⟨rfl, rfl⟩))
  refine Rf.enter (H := w.heap.size + 3) (by simp) (by omega) (gf := 60) (lb := #[.pointer (some ⟨w.heap.size + 2, 0, none⟩), .pointer (some ⟨w.heap.size + 1, 0, none⟩)]) (by simp [Act.eval]) trivial (enters_of Tryd.func60 (by kernel_rfl) rfl) (by simp) ?_
  intro fn hfn R hR0
  have hR := Lib.hid hR0
  clear hR0
  obtain ⟨W1, hW1, h0, h1, h2, h3, h4, hs, hbl⟩ := Rf.five w (.cells #[.int .i64 1] 3) (.cells #[.int .i64 (b : Int)] 3) (.cells #[.int .i64 (e : Int)] 3) (.deferred (some [])) (R .ready none)
  rw [hW1]
  clear hW1
  refine (squares1_any (w.heap.size + 4) (w.heap.size + 1) (w.heap.size + 3) 7 (by omega) W1 (by omega) (by omega) (JPow w (R .ready none)) ?hJ ?hY b e hb he ⟨h1, h2⟩ ⟨h0, h3, h4, hbl, by omega⟩).mono ?_
  case hJ =>
    rintro acc W W' ⟨j0, j3, j4, jb, js⟩ hb2 hk
    have hsz := hb2.size
    exact ⟨(hb2.block _ (by omega)).trans j0, (hk _ (by omega) (by omega)).trans j3, (hk _ (by omega) (by omega)).trans j4, jb.trans (hb2.mono (by omega)), by omega⟩
  case hY =>
    rintro acc x s W ⟨j0, j3, j4, jb, js⟩ hx hacc
    obtain ⟨nx, hnx⟩ : ∃ y, (if s = true then acc * x % 2147483579 else acc) = y := ⟨_, rfl⟩
    rw [hnx]
    have HNX := Lib.hid hnx
    clear hnx
    refine YieldAt.mono (Rf.round (S := fun b' W' => b' = true ∧ JPow w (R .ready none) nx W' ∧ W'.heap[w.heap.size + 1]? = W.heap[w.heap.size + 1]? ∧ W'.heap[w.heap.size + 2]? = W.heap[w.heap.size + 2]? ∧ W.heap.size ≤ W'.heap.size) hR.out hfn j4 (by rfl) ?_) ?_
    · have k0 := Rf.put_other (l := w.heap.size + 4) (o := R .busy none) j0 (by omega)
      have k3 := Rf.put_other (l := w.heap.size + 4) (o := R .busy none) j3 (by omega)
      have k4 := Rf.put_same (R .busy none) j4
      have ks := Rf.size_put W (w.heap.size + 4) (R .busy none)
      have kb : Below w.heap.size w (W.putObj (w.heap.size + 4) (R .busy none)) := Rf.below_put jb (by omega) (by omega)
      have ko : ∀ k, k ≠ w.heap.size + 4 → (W.putObj (w.heap.size + 4) (R .busy none)).heap[k]? = W.heap[k]? := fun k hk => by
        exact put_far W _ _ k hk
      have KO := Lib.hid ko
      clear ko
      gi_wp2
      refine ⟨rfl, ?_⟩
      generalize W.putObj (w.heap.size + 4) (R .busy none) = Wb at *
      have c0 := Boxed.cell k0
      have fb := Boxed.frozen k0
      cases s with
      | false =>
        have hnx := HNX.out
        rw [if_neg (by decide)] at hnx
        subst hnx
        gi_wp2
        have hsz := Rf.size_put Wb (w.heap.size + 4) (R .ready none)
        refine ⟨k4, rfl, ⟨Rf.put_other k0 (by omega), Rf.put_other k3 (by omega), Rf.put_same _ k4, Rf.below_put kb (by omega) (by omega), by omega⟩, ?_, ?_, by omega⟩
        · exact (put_far Wb _ _ _ (by omega)).trans (KO.out _ (by omega))
        · exact (put_far Wb _ _ _ (by omega)).trans (KO.out _ (by omega))
      | true =>
        have hnx := HNX.out
        rw [if_pos rfl] at hnx
        have hbb : (acc : Int) * (x : Int) = ((acc * x : Nat) : Int) := by rw [Int.natCast_mul]
        have hbl2 : acc * x < 4611686018427387904 := Nat.lt_of_le_of_lt (Nat.mul_le_mul (Nat.le_of_lt hacc) (Nat.le_of_lt hx)) (by decide)
        generalize acc * x = pr at *
        have q5 : IntKind.i64.wrap (pr : Int) = (pr : Int) := IntWalk.i64_in _ (by omega)
        have HP := Lib.hid hnx
        clear hnx HNX
        gi_wp2
        have ec : ((pr : Int) % 2147483579) = (nx : Int) := by rw [← HP.out]; rfl
        rw [ec]
        have m4 := Rf.set_other (b := w.heap.size) (v := .int .i64 (nx : Int)) k4 (by omega)
        have hsz := Rf.size_put (Wb.setCell ⟨w.heap.size, 0, none⟩ (.int .i64 (nx : Int))) (w.heap.size + 4) (R .ready none)
        have hsz2 := Rf.size_set Wb w.heap.size (.int .i64 (nx : Int))
        refine ⟨m4, rfl, ⟨Rf.put_other (Boxed.set _ k0) (by omega), Rf.put_other (Rf.set_other k3 (by omega)) (by omega), Rf.put_same _ m4, Rf.below_put (kb.setCell (p := ⟨w.heap.size, 0, none⟩) (Nat.le_refl _) _) (by omega) (by omega), by omega⟩, ?_, ?_, by omega⟩
        · exact (put_far _ _ _ _ (by omega)).trans ((Below.heap_setCell _ _ _ _ (by simp)).trans (KO.out _ (by omega)))
        · exact (put_far _ _ _ _ (by omega)).trans ((Below.heap_setCell _ _ _ _ (by simp)).trans (KO.out _ (by omega)))
    · rintro e W' ⟨b', rfl, rfl, r1, r2, r3, r4⟩
      exact ⟨rfl, r1, r2, r3, r4⟩
  rintro r W2 ⟨⟨v, rfl⟩, j0, j3, j4, jb, js⟩
  refine ⟨v, .ready, none, rfl, by decide, j4, ?_⟩
  have c0 := Boxed.cell (Rf.put_other (l := w.heap.size + 4) (o := R .exhausted none) j0 (by omega))
  have d0 := Rf.put_other (l := w.heap.size + 4) (o := R .exhausted none) j3 (by omega)
  have b0 : Below w.heap.size w (W2.putObj (w.heap.size + 4) (R .exhausted none)) := Rf.below_put jb (by omega) (by omega)
  show Exit.inBlock _ _ _ _ (W2.putObj (w.heap.size + 4) (R .exhausted none))
  generalize W2.putObj (w.heap.size + 4) (R .exhausted none) = W3 at *
  gi_wp2
  refine ⟨by simp, .inl ⟨_, _, rfl, run_takeDeferred d0, ?_⟩⟩
  exact ⟨_, results_tmp rfl _ _ _, rfl, Rf.below_put b0 (by omega) (by have := b0.size; omega)⟩
end Go.Proofs.YtnlgnmlobklobaaDoor.Com
set_option linter.unusedSimpArgs false
set_option linter.unusedVariables false
set_option maxRecDepth 100000
namespace Go.Proofs.YtnlgnmlobklobaaDoor.Com
open Go.RowKit Go.Shelf Go.Proofs.YtnlgnmlobklobaaDoor
/-- The generators in the heap. -/
def TabGen (W : World) : Prop := W.cell? ⟨0, 0, none⟩ = some (.int .i64 4) ∧ W.cell? ⟨0, 1, none⟩ = some (.int .i64 9)
theorem TabGen.lt {w : World} (h : TabGen w) : 0 < w.heap.size := World.block_lt_of_cell? w _ h.1
theorem TabGen.below {w W : World} (h : TabGen w) (hb : Below w.heap.size w W) : TabGen W := ⟨(hb.cell h.lt).trans h.1, (hb.cell (p := ⟨0, 1, none⟩) h.lt).trans h.2⟩
theorem power_out (b e : Int) (h : b < 0 ∨ 2147483579 ≤ b ∨ e < 0) (w : World) :
    Calls Tryd.prog 18 #[.int .i64 b, .int .i64 e] w fun r w' => r = .returned (.int .i64 0) ∧ w' = w := by
  by_cases h1 : b < 0
  · go_enter Tryd.func18, Tryd.ntmps18
    go_wp2
    go_ret
    exact ⟨rfl, rfl⟩
  · by_cases h2 : b ≥ 2147483579
    · go_enter Tryd.func18, Tryd.ntmps18
      go_wp2
      go_ret
      exact ⟨rfl, rfl⟩
    · have h3 : e < 0 := by omega
      go_enter Tryd.func18, Tryd.ntmps18
      go_wp2
      go_ret
      exact ⟨rfl, rfl⟩
theorem isExponent_any (n : Int) (w : World) : Calls Tryd.prog 38 #[.int .i64 n] w fun r w' => r = .returned (.bool (decide (0 ≤ n ∧ n < 1073741789))) ∧ w' = w := by
  by_cases h1 : n ≥ 0
  · by_cases h2 : n < 1073741789
    · rw [decide_eq_true ⟨h1, h2⟩]
      go_enter Tryd.func38, Tryd.ntmps38
      go_wp2
      go_ret
      exact ⟨rfl, rfl⟩
    · rw [decide_eq_false (by omega)]
      go_enter Tryd.func38, Tryd.ntmps38
      go_wp2
      go_ret
      exact ⟨rfl, rfl⟩
  · rw [decide_eq_false (by omega)]
    go_enter Tryd.func38, Tryd.ntmps38
    go_wp2
    go_ret
    exact ⟨rfl, rfl⟩
def pwI (b e : Int) : Int := (Grp.pw b.toNat e.toNat : Int)
theorem power_int (b e : Int) (h : 0 ≤ b ∧ b < 2147483579 ∧ 0 ≤ e ∧ e ≤ 9223372036854775807) (w : World) :
    Calls Tryd.prog 18 #[.int .i64 b, .int .i64 e] w fun r w' => r = .returned (.int .i64 (pwI b e)) ∧ Below w.heap.size w w' := by
  obtain ⟨x, rfl⟩ : ∃ x : Nat, b = x := ⟨b.toNat, by omega⟩
  obtain ⟨y, rfl⟩ : ∃ x : Nat, e = x := ⟨e.toNat, by omega⟩
  exact power_ok x y (by omega) (by omega) w
theorem pwI_range (b e : Int) : 0 ≤ pwI b e ∧ pwI b e < 2147483579 := by
  have := Grp.pw_lt b.toNat e.toNat
  unfold pwI; omega
def com (v r : Nat) : Nat := Grp.pw 4 v * Grp.pw 9 r % 2147483579
set_option maxHeartbeats 1000000 in
theorem commit_ok (v r : Nat) (hv : v < 1073741789) (hr : r < 1073741789) (w : World) (hT : TabGen w) :
    Calls Tryd.prog 17 #[.int .i64 (v : Int), .int .i64 (r : Int)] w fun e w' => e = .returned (.tuple #[.int .i64 (com v r : Int), .int .i64 0]) ∧ Below w.heap.size w w' := by
  have i1 := isExponent_any (v : Int) w
  have i2 := isExponent_any (r : Int) w
  rw [decide_eq_true (by omega)] at i1 i2
  obtain ⟨t0, t1⟩ := hT
  have hg : 0 < w.heap.size := World.block_lt_of_cell? w _ t0
  have y0 := Grp.pw_lt 4 v
  have y1 := Grp.pw_lt 9 r
  have hl : Grp.pw 4 v * Grp.pw 9 r < 4611686018427387904 := Nat.lt_of_le_of_lt (Nat.mul_le_mul (Nat.le_of_lt y0) (Nat.le_of_lt y1)) (by decide)
  have hbb : pwI 4 (v : Int) * pwI 9 (r : Int) = ((Grp.pw 4 v * Grp.pw 9 r : Nat) : Int) := by rw [Int.natCast_mul]; rfl
  unfold com
  obtain ⟨pr, hpr⟩ : ∃ s, Grp.pw 4 v * Grp.pw 9 r = s := ⟨_, rfl⟩
  rw [hpr] at hbb hl ⊢
  clear hpr y0 y1
  obtain ⟨fin, hfin⟩ : ∃ s, pr % 2147483579 = s := ⟨_, rfl⟩
  rw [hfin]
  have HF := Lib.hid hfin
  clear hfin
  have q5 : IntKind.i64.wrap (pr : Int) = (pr : Int) := IntWalk.i64_in _ (by omega)
  go_enter Tryd.func17, Tryd.ntmps17
  go_wp2_with (first | (go_at_call 38; first | (refine i1.mono ?_; rintro e w' ⟨rfl, rfl⟩) | (refine i2.mono ?_; rintro e w' ⟨rfl, rfl⟩)))
  have hB : Below w'.heap.size w' w'.drew := (Below.refl _ _).drew
  have hgd : 0 < w'.drew.heap.size := hg
  clear i1 i2
  go_region_held3 (fun W' => W'.cell? ⟨0, 0, none⟩ = some (.int .i64 4) ∧ W'.cell? ⟨0, 1, none⟩ = some (.int .i64 9)) (first | go_keep | (exact ⟨k0, k1⟩) | (exact ⟨t0, t1⟩))
    (first | (go_at_call 18; refine (power_int _ _ (by omega) _).mono ?_; rintro e w5 ⟨rfl, hb5⟩; first
      | (have k0 := (hb5.cell (p := ⟨0, 0, none⟩) (by exact hgd)).trans k0; have k1 := (hb5.cell (p := ⟨0, 1, none⟩) (by exact hgd)).trans k1; replace hgd := Nat.lt_of_lt_of_le hgd hb5.size; replace hB := hB.trans (hb5.mono hB.size))
      | (have k0 := (hb5.cell (p := ⟨0, 0, none⟩) (by exact hgd)).trans t0; have k1 := (hb5.cell (p := ⟨0, 1, none⟩) (by exact hgd)).trans t1; replace hgd := Nat.lt_of_lt_of_le hgd hb5.size; replace hB := hB.trans (hb5.mono hB.size))))
  have et : (pr : Int).tmod 2147483579 = (fin : Int) := by rw [Int.tmod_eq_emod_of_nonneg (by omega), ← HF.out]; rfl
  rw [et]
  go_wp2
  go_ret2
  exact ⟨rfl, hB⟩
/-! ### the elements -/
theorem to_int (b e : Int) (h : 0 ≤ b ∧ b < 2147483579 ∧ 0 ≤ e ∧ e ≤ 9223372036854775807) (w : World) :
    Calls Tryd.prog 35 #[.int .i64 b, .int .i64 e] w fun r w' => r = .returned (.int .i64 (pwI b e)) ∧ Below w.heap.size w w' := by
  go_enter Tryd.func35, Tryd.ntmps35
  go_wp2_with (first | (go_at_call 18; refine (power_int _ _ h _).mono ?_; rintro r w' ⟨rfl, hb⟩))
  go_ret
  exact ⟨rfl, hb⟩
def invI (b : Int) : Int := pwI b 1073741788
theorem inverse_int (b : Int) (h : 0 ≤ b ∧ b < 2147483579) (w : World) :
    Calls Tryd.prog 48 #[.int .i64 b] w fun r w' => r = .returned (.int .i64 (invI b)) ∧ Below w.heap.size w w' := by
  unfold invI
  go_enter Tryd.func48, Tryd.ntmps48
  go_wp2_with (first | (go_at_call 35; refine (to_int _ _ ⟨h.1, h.2, by decide, by decide⟩ _).mono ?_; rintro r w' ⟨rfl, hb⟩))
  go_ret
  exact ⟨rfl, hb⟩
def mulI (a b : Int) : Int := a * b % 2147483579
theorem mulI_range (a b : Int) : 0 ≤ mulI a b ∧ mulI a b < 2147483579 := by unfold mulI; omega
theorem times_int (a b : Int) (h : 0 ≤ a ∧ a < 2147483579 ∧ 0 ≤ b ∧ b < 2147483579) (w : World) :
    Calls Tryd.prog 34 #[.int .i64 a, .int .i64 b] w fun r w' => r = .returned (.int .i64 (mulI a b)) ∧ w' = w := by
  have h0 : 0 ≤ a * b := Int.mul_nonneg h.1 h.2.2.1
  have h1 : a * b ≤ 2147483579 * 2147483579 := Int.mul_le_mul (by omega) (by omega) h.2.2.1 (by decide)
  have et : (a * b).tmod 2147483579 = mulI a b := Int.tmod_eq_emod_of_nonneg h0
  obtain ⟨p, hp⟩ : ∃ p, a * b = p := ⟨_, rfl⟩
  rw [hp] at h0 h1 et
  have q5 : IntKind.i64.wrap p = p := IntWalk.i64_in _ (by omega)
  clear h
  go_enter Tryd.func34, Tryd.ntmps34
  go_wp2
  go_ret
  exact ⟨rfl, rfl⟩
theorem isNumber_any (n : Int) (w : World) : Calls Tryd.prog 23 #[.int .i64 n] w fun r w' => r = .returned (.bool (decide (0 ≤ n ∧ n < 1073741789))) ∧ w' = w := by
  by_cases h1 : n ≥ 0
  · by_cases h2 : n < 1073741789
    · rw [decide_eq_true ⟨h1, h2⟩]
      go_enter Tryd.func23, Tryd.ntmps23
      go_wp2
      go_ret
      exact ⟨rfl, rfl⟩
    · rw [decide_eq_false (by omega)]
      go_enter Tryd.func23, Tryd.ntmps23
      go_wp2
      go_ret
      exact ⟨rfl, rfl⟩
  · rw [decide_eq_false (by omega)]
    go_enter Tryd.func23, Tryd.ntmps23
    go_wp2
    go_ret
    exact ⟨rfl, rfl⟩
/-- An element of the group. -/
def elB (n : Int) : Bool := decide (0 < n ∧ n < 2147483579 ∧ pwI n 1073741789 = 1)
theorem isElement_any (n : Int) (w : World) : Calls Tryd.prog 58 #[.int .i64 n] w fun r w' => r = .returned (.bool (elB n)) ∧ Below w.heap.size w w' := by
  unfold elB
  by_cases h1 : n > 0
  · by_cases h2 : n < 2147483579
    · obtain ⟨P, hP⟩ : ∃ P, pwI n 1073741789 = P := ⟨_, rfl⟩
      have hp := power_int n 1073741789 ⟨by omega, h2, by decide, by decide⟩
      rw [hP] at hp ⊢
      clear hP
      have ed : decide (0 < n ∧ n < 2147483579 ∧ P = 1) = (P == 1) := by
        by_cases h3 : P = 1
        · rw [decide_eq_true ⟨h1, h2, h3⟩, h3]; rfl
        · rw [decide_eq_false (fun h => h3 h.2.2), beq_eq_false_iff_ne.2 h3]
      rw [ed]
      clear ed
      go_enter Tryd.func58, Tryd.ntmps58
      go_wp2_with (first | (go_at_call 18; refine (hp _).mono ?_; rintro r w' ⟨rfl, hb⟩))
      go_ret
      exact ⟨rfl, hb⟩
    · rw [decide_eq_false (fun h => h2 h.2.1)]
      go_enter Tryd.func58, Tryd.ntmps58
      go_wp2
      go_ret
      exact ⟨rfl, Below.refl _ _⟩
  · rw [decide_eq_false (fun h => h1 h.1)]
    go_enter Tryd.func58, Tryd.ntmps58
    go_wp2
    go_ret
    exact ⟨rfl, Below.refl _ _⟩
end Go.Proofs.YtnlgnmlobklobaaDoor.Com
set_option linter.unusedSimpArgs false
set_option linter.unusedVariables false
set_option maxRecDepth 100000
namespace Go.Proofs.YtnlgnmlobklobaaDoor.Com
open Go.RowKit Go.Shelf Go.Proofs.YtnlgnmlobklobaaDoor
@[local go_sem] theorem run_store_func {P : Program} {w : World} {a : Addr} {m : Mode} (f : Fn) (ts : Array Value) (fs : Array Value) : (store a (.func f ts fs) m).run P w = stored P w a (.func f ts fs) m := run_store P w a _ m rfl
theorem sides_any (c : Int) (w : World) : Calls Tryd.prog 47 #[.int .i64 c] w fun r w' =>
    ∃ B, w.heap.size ≤ B ∧ r = .returned (.agg #[.func (.func 63) #[] #[.pointer (some ⟨B, 0, none⟩)], .func (.func 64) #[] #[.pointer (some ⟨B, 0, none⟩)]]) ∧
      Boxed w' B 57 (.int .i64 c) ∧ Below w.heap.size w w' := by
  go_enter Tryd.func47, Tryd.ntmps47
  go_wp2
  refine ⟨rfl, _, ?_, w.heap.size + 1, by omega, rfl, ?_, ?_⟩
  · simp [results, go_sem]
  · exact Rf.alloc_new _ _ (by simp)
  · exact ((Below.refl w.heap.size w).alloc (Nat.le_refl _) _).alloc (by simp) _
/-- The first side: the commitment. -/
theorem side1_any (c : Int) (B : Nat) (w : World) (hB : Boxed w B 57 (.int .i64 c)) : Calls Tryd.prog 63 #[.pointer (some ⟨B, 0, none⟩)] w fun r w' => r = .returned (.int .i64 c) ∧ w' = w := by
  have d := hB.cell
  go_enter Tryd.func63, Tryd.ntmps63
  go_wp2
  go_ret
  exact ⟨rfl, rfl⟩
/-- The second one: divided by g. -/
theorem side2_any (c : Int) (hc : 0 ≤ c ∧ c < 2147483579) (B : Nat) (w : World) (hB : Boxed w B 57 (.int .i64 c)) :
    Calls Tryd.prog 64 #[.pointer (some ⟨B, 0, none⟩)] w fun r w' => r = .returned (.int .i64 (mulI c (invI 4))) ∧ Below w.heap.size w w' := by
  have d := hB.cell
  have hlt := hB.lt
  have hB0 : Below w.heap.size w w.drew := (Below.refl _ _).drew
  have hr := pwI_range 4 1073741788
  have hi : 0 ≤ c ∧ c < 2147483579 ∧ 0 ≤ invI 4 ∧ invI 4 < 2147483579 := ⟨hc.1, hc.2, hr.1, hr.2⟩
  go_enter Tryd.func64, Tryd.ntmps64
  go_wp2
  go_region_held3 (fun W' => W'.cell? ⟨B, 0, none⟩ = some (.int .i64 c)) (first | go_keep | exact d1 | exact d)
    (first | (go_at_call 48; refine (inverse_int 4 (by decide) _).mono ?_; rintro e w5 ⟨rfl, hb5⟩; have d1 := (hb5.cell (p := ⟨B, 0, none⟩) (by exact hlt)).trans d; replace hlt := Nat.lt_of_lt_of_le hlt hb5.size; replace hB0 := hB0.trans (hb5.mono hB0.size)) | (go_at_call 34; refine (times_int _ _ hi _).mono ?_; rintro e w6 ⟨rfl, hw6⟩))
  go_wp2
  go_ret
  exact ⟨rfl, hB0⟩
end Go.Proofs.YtnlgnmlobklobaaDoor.Com
set_option linter.unusedSimpArgs false
set_option linter.unusedVariables false
set_option maxRecDepth 100000
namespace Go.Proofs.YtnlgnmlobklobaaDoor.Com
open Go.RowKit Go.Shelf Go.Proofs.YtnlgnmlobklobaaDoor
/-- A bit proof. -/
structure Bp where
  c : Int
  f0 : Int
  f1 : Int
  c0 : Int
  c1 : Int
  r0 : Int
  r1 : Int
deriving DecidableEq
def Bp.cells (x : Bp) : Array Value := #[.int .i64 x.c, .int .i64 x.f0, .int .i64 x.f1, .int .i64 x.c0, .int .i64 x.c1, .int .i64 x.r0, .int .i64 x.r1]
def Bp.val (x : Bp) : Value := .agg x.cells
def nuB (n : Int) : Bool := decide (0 ≤ n ∧ n < 1073741789)
/-- One side. -/
def sideB (d f c r : Int) : Bool := elB f && nuB c && nuB r && (pwI 9 r == mulI f (pwI d c))
def rightB (x : Bp) : Bool := elB x.c && (sideB x.c x.f0 x.c0 x.r0 && sideB (mulI x.c (invI 4)) x.f1 x.c1 x.r1)
theorem isNumber_nu (n : Int) (w : World) : Calls Tryd.prog 23 #[.int .i64 n] w fun r w' => r = .returned (.bool (nuB n)) ∧ w' = w := isNumber_any n w
theorem cells7 {W : World} {b : Nat} {t : TypeId} {x0 x1 x2 x3 x4 x5 x6 : Value} (h : W.heap[b]? = some (.cells #[x0, x1, x2, x3, x4, x5, x6] t (0, 0))) :
    W.cell? ⟨b, 1, none⟩ = some x1 ∧ W.cell? ⟨b, 2, none⟩ = some x2 ∧ W.cell? ⟨b, 3, none⟩ = some x3 ∧ W.cell? ⟨b, 4, none⟩ = some x4 ∧ W.cell? ⟨b, 5, none⟩ = some x5 ∧ W.cell? ⟨b, 6, none⟩ = some x6 :=
  ⟨Tool.cell_blk h 1, Tool.cell_blk h 2, Tool.cell_blk h 3, Tool.cell_blk h 4, Tool.cell_blk h 5, Tool.cell_blk h 6⟩
theorem nuB_range {n : Int} (h : nuB n = true) : 0 ≤ n ∧ n < 1073741789 := of_decide_eq_true h
theorem elB_range {n : Int} (h : elB n = true) : 0 ≤ n ∧ n < 2147483579 := by unfold elB at h; have := of_decide_eq_true h; omega
@[local go_sem] theorem idx0 (x y : Value) (w : World) : (Instr.index 78 (.agg #[x, y]) (.int .i64 0)).run Tryd.prog w = .ok x w := by simp [Instr.index, go_sem]
@[local go_sem] theorem idx1 (x y : Value) (w : World) : (Instr.index 78 (.agg #[x, y]) (.int .i64 1)).run Tryd.prog w = .ok y w := by simp [Instr.index, go_sem]
set_option maxHeartbeats 4000000 in
theorem right_any (x : Bp) (w : World) : Calls Tryd.prog 30 #[x.val] w fun r w' => r = .returned (.bool (rightB x)) ∧ Below w.heap.size w w' := by
  obtain ⟨c, f0, f1, c0, c1, r0, r1⟩ := x
  unfold Bp.val Bp.cells
  dsimp only
  have i0 := isElement_any c
  have hb0 := (Below.refl w.heap.size w).alloc (Nat.le_refl _) (.cells #[.int .i64 c, .int .i64 f0, .int .i64 f1, .int .i64 c0, .int .i64 c1, .int .i64 r0, .int .i64 r1] 25)
  by_cases hc : elB c = true
  · rw [hc] at i0
    go_enter Tryd.func30, Tryd.ntmps30
    go_wp2_with (first | (go_at_call 58; refine (i0 _).mono ?_; rintro r w1 ⟨rfl, hb1⟩; refine Hid.out ?_))
    refine Lib.hid ?_
    have hbk : w1.heap[w.heap.size]? = some (.cells #[.int .i64 c, .int .i64 f0, .int .i64 f1, .int .i64 c0, .int .i64 c1, .int .i64 r0, .int .i64 r1] 25 (0, 0)) := (hb1.block _ (by simp)).trans (Rf.alloc_new _ _ rfl)
    have hbw := hb0.trans (hb1.mono (by simp))
    clear hb1 hb0 i0
    have d0 := Tool.cell_blk hbk 0
    have d1 := Tool.cell_blk hbk 1
    have d2 := Tool.cell_blk hbk 2
    simp at d0 d1 d2
    go_wp2_with (first | (go_at_call 47; refine (sides_any c _).mono ?_; rintro r w2 ⟨B, hB, rfl, hbx, hb2⟩; refine Hid.out ?_))
    refine Lib.hid ?_
    have hbk2 := (hb2.block _ (Array.getElem?_eq_some_iff.1 hbk).1).trans hbk
    have hbw2 := hbw.trans (hb2.mono hbw.size)
    have hcr : 0 ≤ c ∧ c < 2147483579 := by unfold elB at hc; have := of_decide_eq_true hc; omega
    clear hb2 hbk hbw d0 d1 d2
    go_wp2
    go_loopw [14] (fun v wr => ((v = .int .i64 0) ∨ (v = .int .i64 1 ∧ sideB c f0 c0 r0 = true) ∨ (v = .int .i64 2 ∧ sideB c f0 c0 r0 = true ∧ sideB (mulI c (invI 4)) f1 c1 r1 = true)) ∧ Below w.heap.size w wr ∧ Boxed wr B 57 (.int .i64 c) ∧
      wr.heap[w.heap.size]? = some (.cells #[.int .i64 c, .int .i64 f0, .int .i64 f1, .int .i64 c0, .int .i64 c1, .int .i64 r0, .int .i64 r1] 25 (0, 0))) (fun v _ => 2 - (intOf v).toNat)
    case atStart => exact ⟨.inl rfl, hbw2, hbx, hbk2⟩
    case round =>
      obtain ⟨hv, hbr, hbxr, hbkr⟩ := hrel
      clear hbx hbk2 hbw2
      obtain ⟨d1, d2, d3, d4, d5, d6⟩ := cells7 hbkr
      have hlt := (Array.getElem?_eq_some_iff.1 hbkr).1
      rcases hv with rfl | ⟨rfl, hs0⟩ | ⟨rfl, hs0, hs1⟩
      · by_cases h1 : elB f0 = true
        · by_cases h2 : nuB c0 = true
          · by_cases h3 : nuB r0 = true
            · go_wp2_with (first | (go_at_call 58; refine (isElement_any _ _).mono ?_; rintro r w3 ⟨rfl, hb3⟩; have hbk3 := (hb3.block _ hlt).trans hbkr; obtain ⟨d1, d2, d3, d4, d5, d6⟩ := cells7 hbk3; have hbx3 : Boxed w3 B 57 (.int .i64 c) := (hb3.block _ hbxr.lt).trans hbxr) | (go_at_call 23; refine (isNumber_nu _ _).mono ?_; rintro r w4 ⟨rfl, hw4⟩; subst hw4))
              have hl4 : w.heap.size < w4.drew.heap.size := Nat.lt_of_lt_of_le hlt hb3.size
              have hB4 : Below w.heap.size w w4.drew := (hbr.trans (hb3.mono hbr.size)).drew
              replace hbx3 : Boxed w4.drew B 57 (.int .i64 c) := hbx3
              obtain ⟨z1, z2⟩ := elB_range h1
              obtain ⟨z3, z4⟩ := nuB_range h2
              obtain ⟨z5, z6⟩ := nuB_range h3
              obtain ⟨z7, z8⟩ := hcr
              go_region_held3 (fun W' => W'.cell? ⟨w.heap.size, 1, none⟩ = some (.int .i64 f0) ∧ W'.cell? ⟨w.heap.size, 3, none⟩ = some (.int .i64 c0) ∧ W'.cell? ⟨w.heap.size, 5, none⟩ = some (.int .i64 r0)) (first | go_keep | (exact ⟨d1, d3, d5⟩))
                (first | (go_at_call 35; refine (to_int _ _ (by omega) _).mono ?_; rintro e w5 ⟨rfl, hb5⟩; replace d1 := (hb5.cell (p := ⟨w.heap.size, 1, none⟩) (by exact hl4)).trans d1; replace d3 := (hb5.cell (p := ⟨w.heap.size, 3, none⟩) (by exact hl4)).trans d3; replace d5 := (hb5.cell (p := ⟨w.heap.size, 5, none⟩) (by exact hl4)).trans d5; replace hbk3 := (hb5.block _ (by exact hl4)).trans hbk3; replace hbx3 : Boxed _ B 57 (.int .i64 c) := (hb5.block _ hbx3.lt).trans hbx3; replace hl4 := Nat.lt_of_lt_of_le hl4 hb5.size; replace hB4 := hB4.trans (hb5.mono hB4.size)) | (go_at_call 63; refine (side1_any c B _ hbx3).mono ?_; rintro e w6 ⟨rfl, hw6⟩; subst hw6) | (go_at_call 34; refine (times_int _ _ ⟨z1, z2, (pwI_range _ _).1, (pwI_range _ _).2⟩ _).mono ?_; rintro e w7 ⟨rfl, hw7⟩; subst hw7))
              obtain ⟨X, hX⟩ : ∃ X, pwI 9 r0 = X := ⟨_, rfl⟩
              obtain ⟨Y, hY⟩ : ∃ Y, mulI f0 (pwI c c0) = Y := ⟨_, rfl⟩
              rw [hX, hY]
              by_cases hxy : X = Y
              · have hs : sideB c f0 c0 r0 = true := by unfold sideB; rw [h1, h2, h3, hX, hY, hxy]; simp
                have HS := Lib.hid hs
                clear hs hX hY
                subst hxy
                go_wp2
                exact ⟨⟨.inr (.inl ⟨rfl, HS.out⟩), hB4, hbx3, hbk3⟩, by simp [intOf]⟩
              · have E := Lib.hid (show rightB ⟨c, f0, f1, c0, c1, r0, r1⟩ = false by unfold rightB sideB; dsimp only; rw [hX, hY]; simp [hxy])
                clear hX hY
                go_wp2
                go_ret
                exact ⟨by rw [E.out]; rfl, hB4⟩
            · have h3' : nuB r0 = false := by simpa using h3
              have E := Lib.hid (show rightB ⟨c, f0, f1, c0, c1, r0, r1⟩ = false by unfold rightB sideB; dsimp only; simp [h3'])
              go_wp2_with (first | (go_at_call 58; refine (isElement_any _ _).mono ?_; rintro r w3 ⟨rfl, hb3⟩; have hbk3 := (hb3.block _ hlt).trans hbkr; obtain ⟨d1, d2, d3, d4, d5, d6⟩ := cells7 hbk3; have hbx3 : Boxed w3 B 57 (.int .i64 c) := (hb3.block _ hbxr.lt).trans hbxr) | (go_at_call 23; refine (isNumber_nu _ _).mono ?_; rintro r w4 ⟨rfl, hw4⟩; subst hw4))
              go_ret
              exact ⟨by rw [E.out]; rfl, hbr.trans (hb3.mono hbr.size)⟩
          · have h2' : nuB c0 = false := by simpa using h2
            have E := Lib.hid (show rightB ⟨c, f0, f1, c0, c1, r0, r1⟩ = false by unfold rightB sideB; dsimp only; simp [h2'])
            go_wp2_with (first | (go_at_call 58; refine (isElement_any _ _).mono ?_; rintro r w3 ⟨rfl, hb3⟩; have hbk3 := (hb3.block _ hlt).trans hbkr; obtain ⟨d1, d2, d3, d4, d5, d6⟩ := cells7 hbk3; have hbx3 : Boxed w3 B 57 (.int .i64 c) := (hb3.block _ hbxr.lt).trans hbxr) | (go_at_call 23; refine (isNumber_nu _ _).mono ?_; rintro r w4 ⟨rfl, hw4⟩; subst hw4))
            go_ret
            exact ⟨by rw [E.out]; rfl, hbr.trans (hb3.mono hbr.size)⟩
        · have h1' : elB f0 = false := by simpa using h1
          have E := Lib.hid (show rightB ⟨c, f0, f1, c0, c1, r0, r1⟩ = false by unfold rightB sideB; dsimp only; simp [h1'])
          go_wp2_with (first | (go_at_call 58; refine (isElement_any _ _).mono ?_; rintro r w3 ⟨rfl, hb3⟩; have hbk3 := (hb3.block _ hlt).trans hbkr; obtain ⟨d1, d2, d3, d4, d5, d6⟩ := cells7 hbk3; have hbx3 : Boxed w3 B 57 (.int .i64 c) := (hb3.block _ hbxr.lt).trans hbxr) | (go_at_call 23; refine (isNumber_nu _ _).mono ?_; rintro r w4 ⟨rfl, hw4⟩; subst hw4))
          go_ret
          exact ⟨by rw [E.out]; rfl, hbr.trans (hb3.mono hbr.size)⟩
      · by_cases h1 : elB f1 = true
        · by_cases h2 : nuB c1 = true
          · by_cases h3 : nuB r1 = true
            · go_wp2_with (first | (go_at_call 58; refine (isElement_any _ _).mono ?_; rintro r w3 ⟨rfl, hb3⟩; have hbk3 := (hb3.block _ hlt).trans hbkr; obtain ⟨d1, d2, d3, d4, d5, d6⟩ := cells7 hbk3; have hbx3 : Boxed w3 B 57 (.int .i64 c) := (hb3.block _ hbxr.lt).trans hbxr) | (go_at_call 23; refine (isNumber_nu _ _).mono ?_; rintro r w4 ⟨rfl, hw4⟩; subst hw4))
              have hl4 : w.heap.size < w4.drew.heap.size := Nat.lt_of_lt_of_le hlt hb3.size
              have hB4 : Below w.heap.size w w4.drew := (hbr.trans (hb3.mono hbr.size)).drew
              replace hbx3 : Boxed w4.drew B 57 (.int .i64 c) := hbx3
              obtain ⟨z1, z2⟩ := elB_range h1
              obtain ⟨z3, z4⟩ := nuB_range h2
              obtain ⟨z5, z6⟩ := nuB_range h3
              obtain ⟨z7, z8⟩ := mulI_range c (invI 4)
              go_region_held3 (fun W' => W'.cell? ⟨w.heap.size, 2, none⟩ = some (.int .i64 f1) ∧ W'.cell? ⟨w.heap.size, 4, none⟩ = some (.int .i64 c1) ∧ W'.cell? ⟨w.heap.size, 6, none⟩ = some (.int .i64 r1)) (first | go_keep | (exact ⟨d2, d4, d6⟩))
                (first | (go_at_call 35; refine (to_int _ _ (by omega) _).mono ?_; rintro e w5 ⟨rfl, hb5⟩; replace d2 := (hb5.cell (p := ⟨w.heap.size, 2, none⟩) (by exact hl4)).trans d2; replace d4 := (hb5.cell (p := ⟨w.heap.size, 4, none⟩) (by exact hl4)).trans d4; replace d6 := (hb5.cell (p := ⟨w.heap.size, 6, none⟩) (by exact hl4)).trans d6; replace hbk3 := (hb5.block _ (by exact hl4)).trans hbk3; replace hbx3 : Boxed _ B 57 (.int .i64 c) := (hb5.block _ hbx3.lt).trans hbx3; replace hl4 := Nat.lt_of_lt_of_le hl4 hb5.size; replace hB4 := hB4.trans (hb5.mono hB4.size)) | (go_at_call 64; refine (side2_any c hcr B _ hbx3).mono ?_; rintro e w5 ⟨rfl, hb5⟩; replace d2 := (hb5.cell (p := ⟨w.heap.size, 2, none⟩) (by exact hl4)).trans d2; replace d4 := (hb5.cell (p := ⟨w.heap.size, 4, none⟩) (by exact hl4)).trans d4; replace d6 := (hb5.cell (p := ⟨w.heap.size, 6, none⟩) (by exact hl4)).trans d6; replace hbk3 := (hb5.block _ (by exact hl4)).trans hbk3; replace hbx3 : Boxed _ B 57 (.int .i64 c) := (hb5.block _ hbx3.lt).trans hbx3; replace hl4 := Nat.lt_of_lt_of_le hl4 hb5.size; replace hB4 := hB4.trans (hb5.mono hB4.size)) | (go_at_call 34; refine (times_int _ _ ⟨z1, z2, (pwI_range _ _).1, (pwI_range _ _).2⟩ _).mono ?_; rintro e w7 ⟨rfl, hw7⟩; subst hw7))
              obtain ⟨X, hX⟩ : ∃ X, pwI 9 r1 = X := ⟨_, rfl⟩
              obtain ⟨Y, hY⟩ : ∃ Y, mulI f1 (pwI (mulI c (invI 4)) c1) = Y := ⟨_, rfl⟩
              rw [hX, hY]
              by_cases hxy : X = Y
              · have hs : sideB (mulI c (invI 4)) f1 c1 r1 = true := by unfold sideB; rw [h1, h2, h3, hX, hY, hxy]; simp
                have HS := Lib.hid hs
                clear hs hX hY
                subst hxy
                go_wp2
                exact ⟨⟨.inr (.inr ⟨rfl, hs0, HS.out⟩), hB4, hbx3, hbk3⟩, by simp [intOf]⟩
              · have E := Lib.hid (show rightB ⟨c, f0, f1, c0, c1, r0, r1⟩ = false by unfold rightB sideB; dsimp only; rw [hX, hY]; simp [hxy])
                clear hX hY
                go_wp2
                go_ret
                exact ⟨by rw [E.out]; rfl, hB4⟩
            · have h3' : nuB r1 = false := by simpa using h3
              have E := Lib.hid (show rightB ⟨c, f0, f1, c0, c1, r0, r1⟩ = false by unfold rightB sideB; dsimp only; simp [h3'])
              go_wp2_with (first | (go_at_call 58; refine (isElement_any _ _).mono ?_; rintro r w3 ⟨rfl, hb3⟩; have hbk3 := (hb3.block _ hlt).trans hbkr; obtain ⟨d1, d2, d3, d4, d5, d6⟩ := cells7 hbk3; have hbx3 : Boxed w3 B 57 (.int .i64 c) := (hb3.block _ hbxr.lt).trans hbxr) | (go_at_call 23; refine (isNumber_nu _ _).mono ?_; rintro r w4 ⟨rfl, hw4⟩; subst hw4))
              go_ret
              exact ⟨by rw [E.out]; rfl, hbr.trans (hb3.mono hbr.size)⟩
          · have h2' : nuB c1 = false := by simpa using h2
            have E := Lib.hid (show rightB ⟨c, f0, f1, c0, c1, r0, r1⟩ = false by unfold rightB sideB; dsimp only; simp [h2'])
            go_wp2_with (first | (go_at_call 58; refine (isElement_any _ _).mono ?_; rintro r w3 ⟨rfl, hb3⟩; have hbk3 := (hb3.block _ hlt).trans hbkr; obtain ⟨d1, d2, d3, d4, d5, d6⟩ := cells7 hbk3; have hbx3 : Boxed w3 B 57 (.int .i64 c) := (hb3.block _ hbxr.lt).trans hbxr) | (go_at_call 23; refine (isNumber_nu _ _).mono ?_; rintro r w4 ⟨rfl, hw4⟩; subst hw4))
            go_ret
            exact ⟨by rw [E.out]; rfl, hbr.trans (hb3.mono hbr.size)⟩
        · have h1' : elB f1 = false := by simpa using h1
          have E := Lib.hid (show rightB ⟨c, f0, f1, c0, c1, r0, r1⟩ = false by unfold rightB sideB; dsimp only; simp [h1'])
          go_wp2_with (first | (go_at_call 58; refine (isElement_any _ _).mono ?_; rintro r w3 ⟨rfl, hb3⟩; have hbk3 := (hb3.block _ hlt).trans hbkr; obtain ⟨d1, d2, d3, d4, d5, d6⟩ := cells7 hbk3; have hbx3 : Boxed w3 B 57 (.int .i64 c) := (hb3.block _ hbxr.lt).trans hbxr) | (go_at_call 23; refine (isNumber_nu _ _).mono ?_; rintro r w4 ⟨rfl, hw4⟩; subst hw4))
          go_ret
          exact ⟨by rw [E.out]; rfl, hbr.trans (hb3.mono hbr.size)⟩
      · have E := Lib.hid (show rightB ⟨c, f0, f1, c0, c1, r0, r1⟩ = true by unfold rightB; dsimp only; rw [hc, hs0, hs1]; rfl)
        go_wp2
        go_ret
        exact ⟨by rw [E.out]; rfl, hbr⟩
  · have hc' : elB c = false := by simpa using hc
    rw [hc'] at i0
    have e : rightB ⟨c, f0, f1, c0, c1, r0, r1⟩ = false := by unfold rightB; dsimp only; rw [hc', Bool.false_and]
    rw [e]
    clear e
    go_enter Tryd.func30, Tryd.ntmps30
    go_wp2_with (first | (go_at_call 58; refine (i0 _).mono ?_; rintro r w1 ⟨rfl, hb1⟩))
    go_ret
    exact ⟨rfl, hb0.trans (hb1.mono (by simp))⟩
end Go.Proofs.YtnlgnmlobklobaaDoor.Com
set_option linter.unusedSimpArgs false
set_option linter.unusedVariables false
set_option maxRecDepth 100000
namespace Go.Proofs.YtnlgnmlobklobaaDoor.Com
open Go.RowKit Go.Shelf Go.Proofs.YtnlgnmlobklobaaDoor
theorem isExponent_nu (n : Int) (w : World) : Calls Tryd.prog 38 #[.int .i64 n] w fun r w' => r = .returned (.bool (nuB n)) ∧ w' = w := isExponent_any n w
theorem commit_bad1 (v r : Int) (h : nuB v = false) (w : World) :
    Calls Tryd.prog 17 #[.int .i64 v, .int .i64 r] w fun e w' => e = .returned (.tuple #[.int .i64 0, .int .i64 1]) ∧ w' = w := by
  go_enter Tryd.func17, Tryd.ntmps17
  go_wp2_with (first | (go_at_call 38; refine (isExponent_nu _ _).mono ?_; rintro e w' ⟨rfl, rfl⟩))
  go_ret2
  exact ⟨rfl, rfl⟩
theorem commit_bad2 (v r : Int) (h : nuB v = true) (h' : nuB r = false) (w : World) :
    Calls Tryd.prog 17 #[.int .i64 v, .int .i64 r] w fun e w' => e = .returned (.tuple #[.int .i64 0, .int .i64 1]) ∧ w' = w := by
  go_enter Tryd.func17, Tryd.ntmps17
  go_wp2_with (first | (go_at_call 38; refine (isExponent_nu _ _).mono ?_; rintro e w' ⟨rfl, rfl⟩))
  go_ret2
  exact ⟨rfl, rfl⟩
/-- Commit, whatever it is called with. -/
def comI (v r : Int) : Int × Int := if nuB v = true ∧ nuB r = true then ((com v.toNat r.toNat : Int), 0) else (0, 1)
theorem commit_any (v r : Int) (w : World) (hT : TabGen w) :
    Calls Tryd.prog 17 #[.int .i64 v, .int .i64 r] w fun e w' => e = .returned (.tuple #[.int .i64 (comI v r).1, .int .i64 (comI v r).2]) ∧ Below w.heap.size w w' := by
  unfold comI
  by_cases h1 : nuB v = true
  · by_cases h2 : nuB r = true
    · rw [if_pos ⟨h1, h2⟩]
      have a := nuB_range h1
      have b := nuB_range h2
      obtain ⟨x, rfl⟩ : ∃ x : Nat, v = x := ⟨v.toNat, by omega⟩
      obtain ⟨y, rfl⟩ : ∃ x : Nat, r = x := ⟨r.toNat, by omega⟩
      exact commit_ok x y (by omega) (by omega) w hT
    · rw [if_neg (fun h => h2 h.2)]
      refine (commit_bad2 v r h1 (by simpa using h2) w).mono ?_
      rintro e w' ⟨rfl, rfl⟩
      exact ⟨rfl, Below.refl _ _⟩
  · rw [if_neg (fun h => h1 h.1)]
    refine (commit_bad1 v r (by simpa using h1) w).mono ?_
    rintro e w' ⟨rfl, rfl⟩
    exact ⟨rfl, Below.refl _ _⟩
/-- Open. -/
theorem open_any (c v r : Int) (w : World) (hT : TabGen w) :
    Calls Tryd.prog 19 #[.int .i64 c, .int .i64 v, .int .i64 r] w fun e w' => e = .returned (.bool ((comI v r).2 == 0 && (comI v r).1 == c)) ∧ Below w.heap.size w w' := by
  have hc := commit_any v r w hT
  generalize (comI v r).1 = X at *
  generalize (comI v r).2 = Y at *
  by_cases h1 : Y = 0
  · by_cases h2 : X = c
    · subst h1 h2
      go_enter Tryd.func19, Tryd.ntmps19
      go_wp2_with (first | (go_at_call 17; refine hc.mono ?_; rintro e w' ⟨rfl, hb⟩))
      go_ret
      exact ⟨by simp, hb⟩
    · subst h1
      go_enter Tryd.func19, Tryd.ntmps19
      have hb1 : (X == c) = false := by simpa using h2
      go_wp2_with (first | (go_at_call 17; refine hc.mono ?_; rintro e w' ⟨rfl, hb⟩))
      go_ret
      exact ⟨by simp [h2], hb⟩
  · have hb1 : (Y == 0) = false := by simpa using h1
    go_enter Tryd.func19, Tryd.ntmps19
    go_wp2_with (first | (go_at_call 17; refine hc.mono ?_; rintro e w' ⟨rfl, hb⟩))
    go_ret
    exact ⟨by simp [h1], hb⟩
end Go.Proofs.YtnlgnmlobklobaaDoor.Com
set_option linter.unusedSimpArgs false
set_option linter.unusedVariables false
set_option maxRecDepth 100000
namespace Go.Proofs.YtnlgnmlobklobaaDoor.Com
open Go.RowKit Go.Shelf Go.Proofs.YtnlgnmlobklobaaDoor
theorem elC_any (n : Int) (w : World) : Calls Tryd.prog 40 #[.int .i64 n] w fun r w' => r = .returned (.bool (elB n)) ∧ Below w.heap.size w w' := by
  unfold elB
  by_cases h1 : n > 0
  · by_cases h2 : n < 2147483579
    · obtain ⟨P, hP⟩ : ∃ P, pwI n 1073741789 = P := ⟨_, rfl⟩
      have hp := power_int n 1073741789 ⟨by omega, h2, by decide, by decide⟩
      rw [hP] at hp ⊢
      clear hP
      have ed : decide (0 < n ∧ n < 2147483579 ∧ P = 1) = (P == 1) := by
        by_cases h3 : P = 1
        · rw [decide_eq_true ⟨h1, h2, h3⟩, h3]; rfl
        · rw [decide_eq_false (fun h => h3 h.2.2), beq_eq_false_iff_ne.2 h3]
      rw [ed]
      clear ed
      go_enter Tryd.func40, Tryd.ntmps40
      go_wp2_with (first | (go_at_call 18; refine (hp _).mono ?_; rintro r w' ⟨rfl, hb⟩))
      go_ret
      exact ⟨rfl, hb⟩
    · rw [decide_eq_false (fun h => h2 h.2.1)]
      have hp := power_out n 1073741789 (.inr (.inl (by omega)))
      go_enter Tryd.func40, Tryd.ntmps40
      go_wp2_with (first | (go_at_call 18; refine (hp _).mono ?_; rintro r w' ⟨rfl, rfl⟩))
      go_ret
      exact ⟨rfl, Below.refl _ _⟩
  · rw [decide_eq_false (fun h => h1 h.1)]
    go_enter Tryd.func40, Tryd.ntmps40
    go_wp2
    go_ret
    exact ⟨rfl, Below.refl _ _⟩
theorem add_ok (a b : Int) (h : elB a = true) (h' : elB b = true) (w : World) :
    Calls Tryd.prog 20 #[.int .i64 a, .int .i64 b] w fun e w' => e = .returned (.tuple #[.int .i64 (mulI a b), .int .i64 0]) ∧ Below w.heap.size w w' := by
  have ra := elB_range h
  have rb := elB_range h'
  have hb0 := Below.refl w.heap.size w
  have h0 : 0 ≤ a * b := Int.mul_nonneg ra.1 rb.1
  have h1 : a * b ≤ 2147483579 * 2147483579 := Int.mul_le_mul (by omega) (by omega) rb.1 (by decide)
  have et : (a * b).tmod 2147483579 = mulI a b := Int.tmod_eq_emod_of_nonneg h0
  obtain ⟨p, hp⟩ : ∃ p, a * b = p := ⟨_, rfl⟩
  rw [hp] at h0 h1 et
  have q5 : IntKind.i64.wrap p = p := IntWalk.i64_in _ (by omega)
  clear ra rb
  go_enter Tryd.func20, Tryd.ntmps20
  go_wp2_with (first | (go_at_call 40; refine (elC_any _ _).mono ?_; rintro e w' ⟨rfl, hb⟩; replace hb0 := hb0.trans (hb.mono hb0.size)))
  go_ret2
  exact ⟨rfl, hb0⟩
end Go.Proofs.YtnlgnmlobklobaaDoor.Com
set_option linter.unusedSimpArgs false
set_option linter.unusedVariables false
set_option maxRecDepth 100000
namespace Go.Proofs.YtnlgnmlobklobaaDoor.Com
open Go.RowKit Go.Shelf Go.Proofs.YtnlgnmlobklobaaDoor
set_option maxHeartbeats 1000000 in
theorem powerQ_ok (b e : Nat) (hb : b < 1073741789) (he : e < 9223372036854775808) (w : World) :
    Calls Tryd.prog 31 #[.int .i64 (b : Int), .int .i64 (e : Int)] w fun r w' => r = .returned (.int .i64 ((b ^ e % 1073741789 : Nat) : Int)) ∧ w' = w := by
  obtain ⟨res, hres⟩ : ∃ r, b ^ e % 1073741789 = r := ⟨_, rfl⟩
  rw [hres]
  have HR0 := Lib.hid hres
  clear hres
  go_enter Tryd.func31, Tryd.ntmps31
  go_wp2
  go_loopw [0, 1, 5] (fun v0 v1 v5 wr => ∃ (x k acc : Nat), v0 = .int .i64 (x : Int) ∧ v1 = .int .i64 (k : Int) ∧ v5 = .int .i64 (acc : Int) ∧ acc * x ^ k % 1073741789 = res ∧ x < 1073741789 ∧ k < 9223372036854775808 ∧ acc < 1073741789 ∧ wr = w) (fun _ v1 _ _ => (intOf v1).toNat)
  case atStart => exact ⟨b, e, 1, rfl, rfl, rfl, by rw [Nat.one_mul]; exact HR0.out, hb, he, by decide, rfl⟩
  case round =>
    obtain ⟨x, k, acc, rfl, rfl, rfl, hr, hx, hk, ha, rfl⟩ := hrel
    by_cases h0 : 0 < k
    · have h0i : (k : Int) > 0 := by omega
      have hst := Grp.fp_step 1073741789 x k acc h0 ha
      have hbl : x * x < 4611686018427387904 := Nat.lt_of_le_of_lt (Nat.mul_le_mul (Nat.le_of_lt hx) (Nat.le_of_lt hx)) (by decide)
      have hal : acc * x < 4611686018427387904 := Nat.lt_of_le_of_lt (Nat.mul_le_mul (Nat.le_of_lt ha) (Nat.le_of_lt hx)) (by decide)
      have hbb : (x : Int) * (x : Int) = ((x * x : Nat) : Int) := by rw [Int.natCast_mul]
      have hab : (acc : Int) * (x : Int) = ((acc * x : Nat) : Int) := by rw [Int.natCast_mul]
      obtain ⟨sq, hsq⟩ : ∃ s, x * x = s := ⟨_, rfl⟩
      obtain ⟨pr, hpr⟩ : ∃ s, acc * x = s := ⟨_, rfl⟩
      rw [hsq] at hbb hbl hst
      rw [hpr] at hab hal hst
      have HS := Lib.hid (hst.trans hr)
      clear hst hr hsq hpr
      have q5 : IntKind.i64.wrap (sq : Int) = (sq : Int) := IntWalk.i64_in _ (by omega)
      have q6 : IntKind.i64.wrap (pr : Int) = (pr : Int) := IntWalk.i64_in _ (by omega)
      by_cases h1 : k % 2 = 1
      · have h1b : ((k : Int) % 2 == 1) = true := by rw [beq_iff_eq]; omega
        go_wp2
        have hst := HS.out
        rw [if_pos h1] at hst
        exact ⟨⟨sq % 1073741789, k / 2, pr % 1073741789, rfl, rfl, rfl, hst, Nat.mod_lt _ (by decide), by omega, Nat.mod_lt _ (by decide), trivial⟩, by simp [intOf]; omega⟩
      · have h1b : ((k : Int) % 2 == 1) = false := by rw [beq_eq_false_iff_ne]; omega
        go_wp2
        have hst := HS.out
        rw [if_neg h1] at hst
        exact ⟨⟨sq % 1073741789, k / 2, acc, rfl, rfl, rfl, hst, Nat.mod_lt _ (by decide), by omega, ha, trivial⟩, by simp [intOf]; omega⟩
    · obtain rfl : k = 0 := by omega
      rw [Nat.pow_zero, Nat.mul_one, Nat.mod_eq_of_lt ha] at hr
      subst hr
      go_wp2
      go_ret
      exact ⟨rfl, rfl⟩
/-! ### Extract -/
theorem right7 (c f0 f1 c0 c1 r0 r1 : Int) (w : World) : Calls Tryd.prog 30 #[.agg #[.int .i64 c, .int .i64 f0, .int .i64 f1, .int .i64 c0, .int .i64 c1, .int .i64 r0, .int .i64 r1]] w
    fun r w' => r = .returned (.bool (rightB ⟨c, f0, f1, c0, c1, r0, r1⟩)) ∧ Below w.heap.size w w' := right_any ⟨c, f0, f1, c0, c1, r0, r1⟩ w
end Go.Proofs.YtnlgnmlobklobaaDoor.Com
set_option linter.unusedSimpArgs false
set_option linter.unusedVariables false
set_option maxRecDepth 100000
namespace Go.Proofs.YtnlgnmlobklobaaDoor.Com
open Go.RowKit Go.Shelf Go.Proofs.YtnlgnmlobklobaaDoor
theorem eq2 (d : Nat) (w : World) (a b x y : Int) : (Op.equalIn (d + 2) 23 (.agg #[.int .i64 a, .int .i64 b]) (.agg #[.int .i64 x, .int .i64 y])).run Tryd.prog w = .ok (a == x && b == y) w := by
  obtain ⟨i, hi⟩ := Option.isSome_iff_exists.1 (show (Tryd.prog.info? 3).isSome = true by kernel_rfl)
  have hc : Tryd.prog.cellsOf 3 = 1 := by kernel_rfl
  rw [run_equalIn_array w (d + 1) _ _ Tryd.underlying23 hi, hc, show List.range 2 = [0, 1] from rfl]
  simp only [Op.eqItems]
  go_simp
  by_cases h : a = x <;> by_cases h' : b = y <;> simp [h, h']
@[local go_sem high] theorem eq2w (w : World) (a b x y : Int) : (Op.equalIn 10000 23 (.agg #[.int .i64 a, .int .i64 b]) (.agg #[.int .i64 x, .int .i64 y])).run Tryd.prog w = .ok (a == x && b == y) w := eq2 9998 w a b x y
theorem cells8 {W : World} {b : Nat} {t : TypeId} {x0 x1 x2 x3 x4 x5 x6 : Value} (h : W.heap[b]? = some (.cells #[x0, x1, x2, x3, x4, x5, x6] t (0, 0))) :
    W.cell? ⟨b, 0, none⟩ = some x0 ∧ W.cell? ⟨b, 1, none⟩ = some x1 ∧ W.cell? ⟨b, 2, none⟩ = some x2 ∧ W.cell? ⟨b, 3, none⟩ = some x3 ∧ W.cell? ⟨b, 4, none⟩ = some x4 ∧ W.cell? ⟨b, 5, none⟩ = some x5 ∧ W.cell? ⟨b, 6, none⟩ = some x6 :=
  ⟨Tool.cell_blk h 0, cells7 h⟩
def pq (R : Nat) (a : Int) : Int := ((a.toNat ^ R % 1073741789 : Nat) : Int)
theorem pq_range (R : Nat) (a : Int) : 0 ≤ pq R a ∧ pq R a < 1073741789 := by
  have := Nat.mod_lt (a.toNat ^ R) (show 0 < 1073741789 by decide)
  unfold pq; omega
theorem powerQ_int (b e : Int) (h : 0 ≤ b ∧ b < 1073741789 ∧ 0 ≤ e ∧ e ≤ 9223372036854775807) (w : World) :
    Calls Tryd.prog 31 #[.int .i64 b, .int .i64 e] w fun r w' => r = .returned (.int .i64 (pq e.toNat b)) ∧ w' = w := by
  obtain ⟨x, rfl⟩ : ∃ x : Nat, b = x := ⟨b.toNat, by omega⟩
  obtain ⟨y, rfl⟩ : ∃ x : Nat, e = x := ⟨e.toNat, by omega⟩
  exact powerQ_ok x y (by omega) (by omega) w
theorem right_range {c f0 f1 c0 c1 r0 r1 : Int} (h : rightB ⟨c, f0, f1, c0, c1, r0, r1⟩ = true) : (0 ≤ c0 ∧ c0 < 1073741789) ∧ (0 ≤ c1 ∧ c1 < 1073741789) ∧ (0 ≤ r0 ∧ r0 < 1073741789) ∧ (0 ≤ r1 ∧ r1 < 1073741789) := by
  unfold rightB sideB at h
  simp only [Bool.and_eq_true] at h
  exact ⟨nuB_range h.2.1.1.1.2, nuB_range h.2.2.1.1.2, nuB_range h.2.1.1.2, nuB_range h.2.2.1.2⟩
set_option maxHeartbeats 600000 in
theorem extract_one (c f0 f1 c0 c1 r0 r1 d1 s0 s1 : Int) (hA : rightB ⟨c, f0, f1, c0, c1, r0, r1⟩ = true) (hB : rightB ⟨c, f0, f1, c0, d1, s0, s1⟩ = true) (hne : c1 ≠ d1) (w : World) :
    Calls Tryd.prog 12 #[.agg #[.int .i64 c, .int .i64 f0, .int .i64 f1, .int .i64 c0, .int .i64 c1, .int .i64 r0, .int .i64 r1], .agg #[.int .i64 c, .int .i64 f0, .int .i64 f1, .int .i64 c0, .int .i64 d1, .int .i64 s0, .int .i64 s1]] w
      fun e w' => e = .returned (.tuple #[.int .i64 1, .int .i64 ((r1 - s1 + 1073741789) % 1073741789 * pq 1073741787 ((c1 - d1 + 1073741789) % 1073741789) % 1073741789), .bool true]) ∧ Below w.heap.size w w' := by
  obtain ⟨a0, a1, a2, a3⟩ := right_range hA
  obtain ⟨b0, b1, b2, b3⟩ := right_range hB
  have hneb : (c1 == d1) = false := by simpa using hne
  go_enter Tryd.func12, Tryd.ntmps12
  have hb0 := ((Below.refl w.heap.size w).alloc (Nat.le_refl _) (.cells #[.int .i64 c, .int .i64 f0, .int .i64 f1, .int .i64 c0, .int .i64 c1, .int .i64 r0, .int .i64 r1] 25)).alloc (by simp) (.cells #[.int .i64 c, .int .i64 f0, .int .i64 f1, .int .i64 c0, .int .i64 d1, .int .i64 s0, .int .i64 s1] 25)
  have hk0 := Rf.alloc_old (.cells #[.int .i64 c, .int .i64 f0, .int .i64 f1, .int .i64 c0, .int .i64 d1, .int .i64 s0, .int .i64 s1] 25) (Rf.alloc_new w (.cells #[.int .i64 c, .int .i64 f0, .int .i64 f1, .int .i64 c0, .int .i64 c1, .int .i64 r0, .int .i64 r1] 25) rfl)
  have hk1 := Rf.alloc_new (w.alloc (.cells #[.int .i64 c, .int .i64 f0, .int .i64 f1, .int .i64 c0, .int .i64 c1, .int .i64 r0, .int .i64 r1] 25)) (.cells #[.int .i64 c, .int .i64 f0, .int .i64 f1, .int .i64 c0, .int .i64 d1, .int .i64 s0, .int .i64 s1] 25) (n := w.heap.size + 1) (by simp)
  have hs0 : w.heap.size + 2 ≤ ((w.alloc (.cells #[.int .i64 c, .int .i64 f0, .int .i64 f1, .int .i64 c0, .int .i64 c1, .int .i64 r0, .int .i64 r1] 25)).alloc (.cells #[.int .i64 c, .int .i64 f0, .int .i64 f1, .int .i64 c0, .int .i64 d1, .int .i64 s0, .int .i64 s1] 25)).heap.size := by simp
  go_wp2_with (first | (go_at_call 30; refine (right7 _ _ _ _ _ _ _ _).mono ?_; rintro r w1 ⟨rfl, hb1⟩; replace hk0 := (hb1.block _ (by omega)).trans hk0; replace hk1 := (hb1.block _ (by omega)).trans hk1; replace hs0 := Nat.le_trans hs0 hb1.size; replace hb0 := hb0.trans (hb1.mono hb0.size); obtain ⟨k0, k1, k2, k3, k4, k5, k6⟩ := cells8 hk0; obtain ⟨l0, l1, l2, l3, l4, l5, l6⟩ := cells8 hk1))
  have q1 : IntKind.i64.wrap (r1 - s1) = r1 - s1 := IntWalk.i64_in _ (by omega)
  have q2 : IntKind.i64.wrap (r1 - s1 + 1073741789) = r1 - s1 + 1073741789 := IntWalk.i64_in _ (by omega)
  have q3 : IntKind.i64.wrap (c1 - d1) = c1 - d1 := IntWalk.i64_in _ (by omega)
  have q4 : IntKind.i64.wrap (c1 - d1 + 1073741789) = c1 - d1 + 1073741789 := IntWalk.i64_in _ (by omega)
  have p1 : 0 ≤ r1 - s1 + 1073741789 := by omega
  have p2 : 0 ≤ c1 - d1 + 1073741789 := by omega
  go_region
  have w1U : 0 ≤ (r1 - s1 + 1073741789) % 1073741789 ∧ (r1 - s1 + 1073741789) % 1073741789 < 1073741789 := by omega
  have w1V : 0 ≤ (c1 - d1 + 1073741789) % 1073741789 ∧ (c1 - d1 + 1073741789) % 1073741789 < 1073741789 := by omega
  obtain ⟨U, hU⟩ : ∃ U, (r1 - s1 + 1073741789) % 1073741789 = U := ⟨_, rfl⟩
  obtain ⟨V, hV⟩ : ∃ V, (c1 - d1 + 1073741789) % 1073741789 = V := ⟨_, rfl⟩
  rw [hU] at w1U ⊢
  rw [hV] at w1V ⊢
  have HU := Lib.hid hU
  have HV := Lib.hid hV
  have hcall := powerQ_int V 1073741787 ⟨w1V.1, w1V.2, by decide, by decide⟩
  have hpr := pq_range 1073741787 V
  rw [show (1073741787 : Int).toNat = 1073741787 from rfl] at hcall
  obtain ⟨P, hP⟩ : ∃ P, pq 1073741787 V = P := ⟨_, rfl⟩
  rw [hP] at hcall hpr
  have HP := Lib.hid hP
  have hM0 : 0 ≤ U * P := Int.mul_nonneg w1U.1 hpr.1
  have hM1 : U * P ≤ 1073741789 * 1073741789 := Int.mul_le_mul (by omega) (by omega) hpr.1 (by decide)
  obtain ⟨M, hM⟩ : ∃ M, U * P = M := ⟨_, rfl⟩
  rw [hM] at hM0 hM1
  have q5 : IntKind.i64.wrap M = M := IntWalk.i64_in _ (by omega)
  have HM := Lib.hid hM
  have hbz := hb0.drew
  clear hU hV hP q1 q2 q3 q4 p1 p2 k0 k1 k2 k3 k4 k5 k6 l0 l1 l2 l3 l4 l5 l6 hk0 hk1 hb0
  go_wp2_with (first | (go_at_call 31; refine (hcall _).mono ?_; rintro r w2 ⟨rfl, rfl⟩))
  refine bodyPost_ret (results_tmp3 rfl _ _ _) rfl ?_
  refine ⟨?_, hbz⟩
  rw [HU.out, HV.out, HP.out, HM.out]
  rfl
set_option maxHeartbeats 600000 in
theorem extract_zero (c f0 f1 c0 c1 r0 r1 d0 d1 s0 s1 : Int) (hA : rightB ⟨c, f0, f1, c0, c1, r0, r1⟩ = true) (hB : rightB ⟨c, f0, f1, d0, d1, s0, s1⟩ = true) (hne : c0 ≠ d0) (w : World) :
    Calls Tryd.prog 12 #[.agg #[.int .i64 c, .int .i64 f0, .int .i64 f1, .int .i64 c0, .int .i64 c1, .int .i64 r0, .int .i64 r1], .agg #[.int .i64 c, .int .i64 f0, .int .i64 f1, .int .i64 d0, .int .i64 d1, .int .i64 s0, .int .i64 s1]] w
      fun e w' => e = .returned (.tuple #[.int .i64 0, .int .i64 ((r0 - s0 + 1073741789) % 1073741789 * pq 1073741787 ((c0 - d0 + 1073741789) % 1073741789) % 1073741789), .bool true]) ∧ Below w.heap.size w w' := by
  obtain ⟨a0, a1, a2, a3⟩ := right_range hA
  obtain ⟨b0, b1, b2, b3⟩ := right_range hB
  have hneb : (c0 == d0) = false := by simpa using hne
  go_enter Tryd.func12, Tryd.ntmps12
  have hb0 := ((Below.refl w.heap.size w).alloc (Nat.le_refl _) (.cells #[.int .i64 c, .int .i64 f0, .int .i64 f1, .int .i64 c0, .int .i64 c1, .int .i64 r0, .int .i64 r1] 25)).alloc (by simp) (.cells #[.int .i64 c, .int .i64 f0, .int .i64 f1, .int .i64 d0, .int .i64 d1, .int .i64 s0, .int .i64 s1] 25)
  have hk0 := Rf.alloc_old (.cells #[.int .i64 c, .int .i64 f0, .int .i64 f1, .int .i64 d0, .int .i64 d1, .int .i64 s0, .int .i64 s1] 25) (Rf.alloc_new w (.cells #[.int .i64 c, .int .i64 f0, .int .i64 f1, .int .i64 c0, .int .i64 c1, .int .i64 r0, .int .i64 r1] 25) rfl)
  have hk1 := Rf.alloc_new (w.alloc (.cells #[.int .i64 c, .int .i64 f0, .int .i64 f1, .int .i64 c0, .int .i64 c1, .int .i64 r0, .int .i64 r1] 25)) (.cells #[.int .i64 c, .int .i64 f0, .int .i64 f1, .int .i64 d0, .int .i64 d1, .int .i64 s0, .int .i64 s1] 25) (n := w.heap.size + 1) (by simp)
  have hs0 : w.heap.size + 2 ≤ ((w.alloc (.cells #[.int .i64 c, .int .i64 f0, .int .i64 f1, .int .i64 c0, .int .i64 c1, .int .i64 r0, .int .i64 r1] 25)).alloc (.cells #[.int .i64 c, .int .i64 f0, .int .i64 f1, .int .i64 d0, .int .i64 d1, .int .i64 s0, .int .i64 s1] 25)).heap.size := by simp
  go_wp2_with (first | (go_at_call 30; refine (right7 _ _ _ _ _ _ _ _).mono ?_; rintro r w1 ⟨rfl, hb1⟩; replace hk0 := (hb1.block _ (by omega)).trans hk0; replace hk1 := (hb1.block _ (by omega)).trans hk1; replace hs0 := Nat.le_trans hs0 hb1.size; replace hb0 := hb0.trans (hb1.mono hb0.size); obtain ⟨k0, k1, k2, k3, k4, k5, k6⟩ := cells8 hk0; obtain ⟨l0, l1, l2, l3, l4, l5, l6⟩ := cells8 hk1))
  have q1 : IntKind.i64.wrap (r0 - s0) = r0 - s0 := IntWalk.i64_in _ (by omega)
  have q2 : IntKind.i64.wrap (r0 - s0 + 1073741789) = r0 - s0 + 1073741789 := IntWalk.i64_in _ (by omega)
  have q3 : IntKind.i64.wrap (c0 - d0) = c0 - d0 := IntWalk.i64_in _ (by omega)
  have q4 : IntKind.i64.wrap (c0 - d0 + 1073741789) = c0 - d0 + 1073741789 := IntWalk.i64_in _ (by omega)
  have p1 : 0 ≤ r0 - s0 + 1073741789 := by omega
  have p2 : 0 ≤ c0 - d0 + 1073741789 := by omega
  go_region
  have w1U : 0 ≤ (r0 - s0 + 1073741789) % 1073741789 ∧ (r0 - s0 + 1073741789) % 1073741789 < 1073741789 := by omega
  have w1V : 0 ≤ (c0 - d0 + 1073741789) % 1073741789 ∧ (c0 - d0 + 1073741789) % 1073741789 < 1073741789 := by omega
  obtain ⟨U, hU⟩ : ∃ U, (r0 - s0 + 1073741789) % 1073741789 = U := ⟨_, rfl⟩
  obtain ⟨V, hV⟩ : ∃ V, (c0 - d0 + 1073741789) % 1073741789 = V := ⟨_, rfl⟩
  rw [hU] at w1U ⊢
  rw [hV] at w1V ⊢
  have HU := Lib.hid hU
  have HV := Lib.hid hV
  have hcall := powerQ_int V 1073741787 ⟨w1V.1, w1V.2, by decide, by decide⟩
  have hpr := pq_range 1073741787 V
  rw [show (1073741787 : Int).toNat = 1073741787 from rfl] at hcall
  obtain ⟨P, hP⟩ : ∃ P, pq 1073741787 V = P := ⟨_, rfl⟩
  rw [hP] at hcall hpr
  have HP := Lib.hid hP
  have hM0 : 0 ≤ U * P := Int.mul_nonneg w1U.1 hpr.1
  have hM1 : U * P ≤ 1073741789 * 1073741789 := Int.mul_le_mul (by omega) (by omega) hpr.1 (by decide)
  obtain ⟨M, hM⟩ : ∃ M, U * P = M := ⟨_, rfl⟩
  rw [hM] at hM0 hM1
  have q5 : IntKind.i64.wrap M = M := IntWalk.i64_in _ (by omega)
  have HM := Lib.hid hM
  have hbz := hb0.drew
  clear hU hV hP q1 q2 q3 q4 p1 p2 k0 k1 k2 k3 k4 k5 k6 l0 l1 l2 l3 l4 l5 l6 hk0 hk1 hb0
  go_wp2_with (first | (go_at_call 31; refine (hcall _).mono ?_; rintro r w2 ⟨rfl, rfl⟩))
  refine bodyPost_ret (results_tmp3 rfl _ _ _) rfl ?_
  refine ⟨?_, hbz⟩
  rw [HU.out, HV.out, HP.out, HM.out]
  rfl
end Go.Proofs.YtnlgnmlobklobaaDoor.Com
set_option linter.unusedSimpArgs false
set_option linter.unusedVariables false
set_option maxRecDepth 100000
namespace Go.Proofs.YtnlgnmlobklobaaDoor.Com
open Go.RowKit Go.Shelf Go.Proofs.YtnlgnmlobklobaaDoor
attribute [local go_sem high] eq2w
set_option maxHeartbeats 600000 in
theorem extract_no1 (c f0 f1 c0 c1 r0 r1 x g0 g1 d0 d1 s0 s1 : Int) (h : c ≠ x) (w : World) :
    Calls Tryd.prog 12 #[.agg #[.int .i64 c, .int .i64 f0, .int .i64 f1, .int .i64 c0, .int .i64 c1, .int .i64 r0, .int .i64 r1], .agg #[.int .i64 x, .int .i64 g0, .int .i64 g1, .int .i64 d0, .int .i64 d1, .int .i64 s0, .int .i64 s1]] w
      fun e w' => e = .returned (.tuple #[.int .i64 0, .int .i64 0, .bool false]) ∧ Below w.heap.size w w' := by
  have hb : (c == x) = false := by simpa using h
  have hb' : (c != x) = true := by simpa using h
  go_enter Tryd.func12, Tryd.ntmps12
  have hb0 := ((Below.refl w.heap.size w).alloc (Nat.le_refl _) (.cells #[.int .i64 c, .int .i64 f0, .int .i64 f1, .int .i64 c0, .int .i64 c1, .int .i64 r0, .int .i64 r1] 25)).alloc (by simp) (.cells #[.int .i64 x, .int .i64 g0, .int .i64 g1, .int .i64 d0, .int .i64 d1, .int .i64 s0, .int .i64 s1] 25)
  have hk0 := Rf.alloc_old (.cells #[.int .i64 x, .int .i64 g0, .int .i64 g1, .int .i64 d0, .int .i64 d1, .int .i64 s0, .int .i64 s1] 25) (Rf.alloc_new w (.cells #[.int .i64 c, .int .i64 f0, .int .i64 f1, .int .i64 c0, .int .i64 c1, .int .i64 r0, .int .i64 r1] 25) rfl)
  have hk1 := Rf.alloc_new (w.alloc (.cells #[.int .i64 c, .int .i64 f0, .int .i64 f1, .int .i64 c0, .int .i64 c1, .int .i64 r0, .int .i64 r1] 25)) (.cells #[.int .i64 x, .int .i64 g0, .int .i64 g1, .int .i64 d0, .int .i64 d1, .int .i64 s0, .int .i64 s1] 25) (n := w.heap.size + 1) (by simp)
  have hs0 : w.heap.size + 2 ≤ ((w.alloc (.cells #[.int .i64 c, .int .i64 f0, .int .i64 f1, .int .i64 c0, .int .i64 c1, .int .i64 r0, .int .i64 r1] 25)).alloc (.cells #[.int .i64 x, .int .i64 g0, .int .i64 g1, .int .i64 d0, .int .i64 d1, .int .i64 s0, .int .i64 s1] 25)).heap.size := by simp
  go_wp2_with (first | (go_at_call 30; refine (right7 _ _ _ _ _ _ _ _).mono ?_; rintro r w1 ⟨rfl, hb1⟩; replace hk0 := (hb1.block _ (by omega)).trans hk0; replace hk1 := (hb1.block _ (by omega)).trans hk1; replace hs0 := Nat.le_trans hs0 hb1.size; replace hb0 := hb0.trans (hb1.mono hb0.size); obtain ⟨k0, k1, k2, k3, k4, k5, k6⟩ := cells8 hk0; obtain ⟨l0, l1, l2, l3, l4, l5, l6⟩ := cells8 hk1))
  exact ⟨rfl, _, results_tmp3 rfl _ _ _, rfl, hb0⟩
set_option maxHeartbeats 600000 in
theorem extract_no2 (c f0 f1 c0 c1 r0 r1 g0 g1 d0 d1 s0 s1 : Int) (h : f0 ≠ g0) (w : World) :
    Calls Tryd.prog 12 #[.agg #[.int .i64 c, .int .i64 f0, .int .i64 f1, .int .i64 c0, .int .i64 c1, .int .i64 r0, .int .i64 r1], .agg #[.int .i64 c, .int .i64 g0, .int .i64 g1, .int .i64 d0, .int .i64 d1, .int .i64 s0, .int .i64 s1]] w
      fun e w' => e = .returned (.tuple #[.int .i64 0, .int .i64 0, .bool false]) ∧ Below w.heap.size w w' := by
  have hb : (f0 == g0) = false := by simpa using h
  go_enter Tryd.func12, Tryd.ntmps12
  have hb0 := ((Below.refl w.heap.size w).alloc (Nat.le_refl _) (.cells #[.int .i64 c, .int .i64 f0, .int .i64 f1, .int .i64 c0, .int .i64 c1, .int .i64 r0, .int .i64 r1] 25)).alloc (by simp) (.cells #[.int .i64 c, .int .i64 g0, .int .i64 g1, .int .i64 d0, .int .i64 d1, .int .i64 s0, .int .i64 s1] 25)
  have hk0 := Rf.alloc_old (.cells #[.int .i64 c, .int .i64 g0, .int .i64 g1, .int .i64 d0, .int .i64 d1, .int .i64 s0, .int .i64 s1] 25) (Rf.alloc_new w (.cells #[.int .i64 c, .int .i64 f0, .int .i64 f1, .int .i64 c0, .int .i64 c1, .int .i64 r0, .int .i64 r1] 25) rfl)
  have hk1 := Rf.alloc_new (w.alloc (.cells #[.int .i64 c, .int .i64 f0, .int .i64 f1, .int .i64 c0, .int .i64 c1, .int .i64 r0, .int .i64 r1] 25)) (.cells #[.int .i64 c, .int .i64 g0, .int .i64 g1, .int .i64 d0, .int .i64 d1, .int .i64 s0, .int .i64 s1] 25) (n := w.heap.size + 1) (by simp)
  have hs0 : w.heap.size + 2 ≤ ((w.alloc (.cells #[.int .i64 c, .int .i64 f0, .int .i64 f1, .int .i64 c0, .int .i64 c1, .int .i64 r0, .int .i64 r1] 25)).alloc (.cells #[.int .i64 c, .int .i64 g0, .int .i64 g1, .int .i64 d0, .int .i64 d1, .int .i64 s0, .int .i64 s1] 25)).heap.size := by simp
  go_wp2_with (first | (go_at_call 30; refine (right7 _ _ _ _ _ _ _ _).mono ?_; rintro r w1 ⟨rfl, hb1⟩; replace hk0 := (hb1.block _ (by omega)).trans hk0; replace hk1 := (hb1.block _ (by omega)).trans hk1; replace hs0 := Nat.le_trans hs0 hb1.size; replace hb0 := hb0.trans (hb1.mono hb0.size); obtain ⟨k0, k1, k2, k3, k4, k5, k6⟩ := cells8 hk0; obtain ⟨l0, l1, l2, l3, l4, l5, l6⟩ := cells8 hk1))
  exact ⟨rfl, _, results_tmp3 rfl _ _ _, rfl, hb0⟩
set_option maxHeartbeats 600000 in
theorem extract_no2b (c f0 f1 c0 c1 r0 r1 g1 d0 d1 s0 s1 : Int) (h : f1 ≠ g1) (w : World) :
    Calls Tryd.prog 12 #[.agg #[.int .i64 c, .int .i64 f0, .int .i64 f1, .int .i64 c0, .int .i64 c1, .int .i64 r0, .int .i64 r1], .agg #[.int .i64 c, .int .i64 f0, .int .i64 g1, .int .i64 d0, .int .i64 d1, .int .i64 s0, .int .i64 s1]] w
      fun e w' => e = .returned (.tuple #[.int .i64 0, .int .i64 0, .bool false]) ∧ Below w.heap.size w w' := by
  have hb : (f1 == g1) = false := by simpa using h
  go_enter Tryd.func12, Tryd.ntmps12
  have hb0 := ((Below.refl w.heap.size w).alloc (Nat.le_refl _) (.cells #[.int .i64 c, .int .i64 f0, .int .i64 f1, .int .i64 c0, .int .i64 c1, .int .i64 r0, .int .i64 r1] 25)).alloc (by simp) (.cells #[.int .i64 c, .int .i64 f0, .int .i64 g1, .int .i64 d0, .int .i64 d1, .int .i64 s0, .int .i64 s1] 25)
  have hk0 := Rf.alloc_old (.cells #[.int .i64 c, .int .i64 f0, .int .i64 g1, .int .i64 d0, .int .i64 d1, .int .i64 s0, .int .i64 s1] 25) (Rf.alloc_new w (.cells #[.int .i64 c, .int .i64 f0, .int .i64 f1, .int .i64 c0, .int .i64 c1, .int .i64 r0, .int .i64 r1] 25) rfl)
  have hk1 := Rf.alloc_new (w.alloc (.cells #[.int .i64 c, .int .i64 f0, .int .i64 f1, .int .i64 c0, .int .i64 c1, .int .i64 r0, .int .i64 r1] 25)) (.cells #[.int .i64 c, .int .i64 f0, .int .i64 g1, .int .i64 d0, .int .i64 d1, .int .i64 s0, .int .i64 s1] 25) (n := w.heap.size + 1) (by simp)
  have hs0 : w.heap.size + 2 ≤ ((w.alloc (.cells #[.int .i64 c, .int .i64 f0, .int .i64 f1, .int .i64 c0, .int .i64 c1, .int .i64 r0, .int .i64 r1] 25)).alloc (.cells #[.int .i64 c, .int .i64 f0, .int .i64 g1, .int .i64 d0, .int .i64 d1, .int .i64 s0, .int .i64 s1] 25)).heap.size := by simp
  go_wp2_with (first | (go_at_call 30; refine (right7 _ _ _ _ _ _ _ _).mono ?_; rintro r w1 ⟨rfl, hb1⟩; replace hk0 := (hb1.block _ (by omega)).trans hk0; replace hk1 := (hb1.block _ (by omega)).trans hk1; replace hs0 := Nat.le_trans hs0 hb1.size; replace hb0 := hb0.trans (hb1.mono hb0.size); obtain ⟨k0, k1, k2, k3, k4, k5, k6⟩ := cells8 hk0; obtain ⟨l0, l1, l2, l3, l4, l5, l6⟩ := cells8 hk1))
  exact ⟨rfl, _, results_tmp3 rfl _ _ _, rfl, hb0⟩
set_option maxHeartbeats 600000 in
theorem extract_no3 (c f0 f1 c0 c1 r0 r1 s0 s1 : Int)  (w : World) :
    Calls Tryd.prog 12 #[.agg #[.int .i64 c, .int .i64 f0, .int .i64 f1, .int .i64 c0, .int .i64 c1, .int .i64 r0, .int .i64 r1], .agg #[.int .i64 c, .int .i64 f0, .int .i64 f1, .int .i64 c0, .int .i64 c1, .int .i64 s0, .int .i64 s1]] w
      fun e w' => e = .returned (.tuple #[.int .i64 0, .int .i64 0, .bool false]) ∧ Below w.heap.size w w' := by
  go_enter Tryd.func12, Tryd.ntmps12
  have hb0 := ((Below.refl w.heap.size w).alloc (Nat.le_refl _) (.cells #[.int .i64 c, .int .i64 f0, .int .i64 f1, .int .i64 c0, .int .i64 c1, .int .i64 r0, .int .i64 r1] 25)).alloc (by simp) (.cells #[.int .i64 c, .int .i64 f0, .int .i64 f1, .int .i64 c0, .int .i64 c1, .int .i64 s0, .int .i64 s1] 25)
  have hk0 := Rf.alloc_old (.cells #[.int .i64 c, .int .i64 f0, .int .i64 f1, .int .i64 c0, .int .i64 c1, .int .i64 s0, .int .i64 s1] 25) (Rf.alloc_new w (.cells #[.int .i64 c, .int .i64 f0, .int .i64 f1, .int .i64 c0, .int .i64 c1, .int .i64 r0, .int .i64 r1] 25) rfl)
  have hk1 := Rf.alloc_new (w.alloc (.cells #[.int .i64 c, .int .i64 f0, .int .i64 f1, .int .i64 c0, .int .i64 c1, .int .i64 r0, .int .i64 r1] 25)) (.cells #[.int .i64 c, .int .i64 f0, .int .i64 f1, .int .i64 c0, .int .i64 c1, .int .i64 s0, .int .i64 s1] 25) (n := w.heap.size + 1) (by simp)
  have hs0 : w.heap.size + 2 ≤ ((w.alloc (.cells #[.int .i64 c, .int .i64 f0, .int .i64 f1, .int .i64 c0, .int .i64 c1, .int .i64 r0, .int .i64 r1] 25)).alloc (.cells #[.int .i64 c, .int .i64 f0, .int .i64 f1, .int .i64 c0, .int .i64 c1, .int .i64 s0, .int .i64 s1] 25)).heap.size := by simp
  go_wp2_with (first | (go_at_call 30; refine (right7 _ _ _ _ _ _ _ _).mono ?_; rintro r w1 ⟨rfl, hb1⟩; replace hk0 := (hb1.block _ (by omega)).trans hk0; replace hk1 := (hb1.block _ (by omega)).trans hk1; replace hs0 := Nat.le_trans hs0 hb1.size; replace hb0 := hb0.trans (hb1.mono hb0.size); obtain ⟨k0, k1, k2, k3, k4, k5, k6⟩ := cells8 hk0; obtain ⟨l0, l1, l2, l3, l4, l5, l6⟩ := cells8 hk1))
  exact ⟨rfl, _, results_tmp3 rfl _ _ _, rfl, hb0⟩
set_option maxHeartbeats 600000 in
theorem extract_no4 (c f0 f1 c0 c1 r0 r1 d0 d1 s0 s1 : Int) (h4 : c0 ≠ d0) (h : rightB ⟨c, f0, f1, c0, c1, r0, r1⟩ = false) (w : World) :
    Calls Tryd.prog 12 #[.agg #[.int .i64 c, .int .i64 f0, .int .i64 f1, .int .i64 c0, .int .i64 c1, .int .i64 r0, .int .i64 r1], .agg #[.int .i64 c, .int .i64 f0, .int .i64 f1, .int .i64 d0, .int .i64 d1, .int .i64 s0, .int .i64 s1]] w
      fun e w' => e = .returned (.tuple #[.int .i64 0, .int .i64 0, .bool false]) ∧ Below w.heap.size w w' := by
  have hb : (c0 == d0) = false := by simpa using h4
  go_enter Tryd.func12, Tryd.ntmps12
  have hb0 := ((Below.refl w.heap.size w).alloc (Nat.le_refl _) (.cells #[.int .i64 c, .int .i64 f0, .int .i64 f1, .int .i64 c0, .int .i64 c1, .int .i64 r0, .int .i64 r1] 25)).alloc (by simp) (.cells #[.int .i64 c, .int .i64 f0, .int .i64 f1, .int .i64 d0, .int .i64 d1, .int .i64 s0, .int .i64 s1] 25)
  have hk0 := Rf.alloc_old (.cells #[.int .i64 c, .int .i64 f0, .int .i64 f1, .int .i64 d0, .int .i64 d1, .int .i64 s0, .int .i64 s1] 25) (Rf.alloc_new w (.cells #[.int .i64 c, .int .i64 f0, .int .i64 f1, .int .i64 c0, .int .i64 c1, .int .i64 r0, .int .i64 r1] 25) rfl)
  have hk1 := Rf.alloc_new (w.alloc (.cells #[.int .i64 c, .int .i64 f0, .int .i64 f1, .int .i64 c0, .int .i64 c1, .int .i64 r0, .int .i64 r1] 25)) (.cells #[.int .i64 c, .int .i64 f0, .int .i64 f1, .int .i64 d0, .int .i64 d1, .int .i64 s0, .int .i64 s1] 25) (n := w.heap.size + 1) (by simp)
  have hs0 : w.heap.size + 2 ≤ ((w.alloc (.cells #[.int .i64 c, .int .i64 f0, .int .i64 f1, .int .i64 c0, .int .i64 c1, .int .i64 r0, .int .i64 r1] 25)).alloc (.cells #[.int .i64 c, .int .i64 f0, .int .i64 f1, .int .i64 d0, .int .i64 d1, .int .i64 s0, .int .i64 s1] 25)).heap.size := by simp
  go_wp2_with (first | (go_at_call 30; refine (right7 _ _ _ _ _ _ _ _).mono ?_; rintro r w1 ⟨rfl, hb1⟩; replace hk0 := (hb1.block _ (by omega)).trans hk0; replace hk1 := (hb1.block _ (by omega)).trans hk1; replace hs0 := Nat.le_trans hs0 hb1.size; replace hb0 := hb0.trans (hb1.mono hb0.size); obtain ⟨k0, k1, k2, k3, k4, k5, k6⟩ := cells8 hk0; obtain ⟨l0, l1, l2, l3, l4, l5, l6⟩ := cells8 hk1))
  exact ⟨rfl, _, results_tmp3 rfl _ _ _, rfl, hb0⟩
set_option maxHeartbeats 600000 in
theorem extract_no4b (c f0 f1 c0 c1 r0 r1 d1 s0 s1 : Int) (h4 : c1 ≠ d1) (h : rightB ⟨c, f0, f1, c0, c1, r0, r1⟩ = false) (w : World) :
    Calls Tryd.prog 12 #[.agg #[.int .i64 c, .int .i64 f0, .int .i64 f1, .int .i64 c0, .int .i64 c1, .int .i64 r0, .int .i64 r1], .agg #[.int .i64 c, .int .i64 f0, .int .i64 f1, .int .i64 c0, .int .i64 d1, .int .i64 s0, .int .i64 s1]] w
      fun e w' => e = .returned (.tuple #[.int .i64 0, .int .i64 0, .bool false]) ∧ Below w.heap.size w w' := by
  have hb : (c1 == d1) = false := by simpa using h4
  go_enter Tryd.func12, Tryd.ntmps12
  have hb0 := ((Below.refl w.heap.size w).alloc (Nat.le_refl _) (.cells #[.int .i64 c, .int .i64 f0, .int .i64 f1, .int .i64 c0, .int .i64 c1, .int .i64 r0, .int .i64 r1] 25)).alloc (by simp) (.cells #[.int .i64 c, .int .i64 f0, .int .i64 f1, .int .i64 c0, .int .i64 d1, .int .i64 s0, .int .i64 s1] 25)
  have hk0 := Rf.alloc_old (.cells #[.int .i64 c, .int .i64 f0, .int .i64 f1, .int .i64 c0, .int .i64 d1, .int .i64 s0, .int .i64 s1] 25) (Rf.alloc_new w (.cells #[.int .i64 c, .int .i64 f0, .int .i64 f1, .int .i64 c0, .int .i64 c1, .int .i64 r0, .int .i64 r1] 25) rfl)
  have hk1 := Rf.alloc_new (w.alloc (.cells #[.int .i64 c, .int .i64 f0, .int .i64 f1, .int .i64 c0, .int .i64 c1, .int .i64 r0, .int .i64 r1] 25)) (.cells #[.int .i64 c, .int .i64 f0, .int .i64 f1, .int .i64 c0, .int .i64 d1, .int .i64 s0, .int .i64 s1] 25) (n := w.heap.size + 1) (by simp)
  have hs0 : w.heap.size + 2 ≤ ((w.alloc (.cells #[.int .i64 c, .int .i64 f0, .int .i64 f1, .int .i64 c0, .int .i64 c1, .int .i64 r0, .int .i64 r1] 25)).alloc (.cells #[.int .i64 c, .int .i64 f0, .int .i64 f1, .int .i64 c0, .int .i64 d1, .int .i64 s0, .int .i64 s1] 25)).heap.size := by simp
  go_wp2_with (first | (go_at_call 30; refine (right7 _ _ _ _ _ _ _ _).mono ?_; rintro r w1 ⟨rfl, hb1⟩; replace hk0 := (hb1.block _ (by omega)).trans hk0; replace hk1 := (hb1.block _ (by omega)).trans hk1; replace hs0 := Nat.le_trans hs0 hb1.size; replace hb0 := hb0.trans (hb1.mono hb0.size); obtain ⟨k0, k1, k2, k3, k4, k5, k6⟩ := cells8 hk0; obtain ⟨l0, l1, l2, l3, l4, l5, l6⟩ := cells8 hk1))
  exact ⟨rfl, _, results_tmp3 rfl _ _ _, rfl, hb0⟩
set_option maxHeartbeats 600000 in
theorem extract_no5 (c f0 f1 c0 c1 r0 r1 d0 d1 s0 s1 : Int) (h4 : c0 ≠ d0) (h : rightB ⟨c, f0, f1, c0, c1, r0, r1⟩ = true) (h' : rightB ⟨c, f0, f1, d0, d1, s0, s1⟩ = false) (w : World) :
    Calls Tryd.prog 12 #[.agg #[.int .i64 c, .int .i64 f0, .int .i64 f1, .int .i64 c0, .int .i64 c1, .int .i64 r0, .int .i64 r1], .agg #[.int .i64 c, .int .i64 f0, .int .i64 f1, .int .i64 d0, .int .i64 d1, .int .i64 s0, .int .i64 s1]] w
      fun e w' => e = .returned (.tuple #[.int .i64 0, .int .i64 0, .bool false]) ∧ Below w.heap.size w w' := by
  have hb : (c0 == d0) = false := by simpa using h4
  go_enter Tryd.func12, Tryd.ntmps12
  have hb0 := ((Below.refl w.heap.size w).alloc (Nat.le_refl _) (.cells #[.int .i64 c, .int .i64 f0, .int .i64 f1, .int .i64 c0, .int .i64 c1, .int .i64 r0, .int .i64 r1] 25)).alloc (by simp) (.cells #[.int .i64 c, .int .i64 f0, .int .i64 f1, .int .i64 d0, .int .i64 d1, .int .i64 s0, .int .i64 s1] 25)
  have hk0 := Rf.alloc_old (.cells #[.int .i64 c, .int .i64 f0, .int .i64 f1, .int .i64 d0, .int .i64 d1, .int .i64 s0, .int .i64 s1] 25) (Rf.alloc_new w (.cells #[.int .i64 c, .int .i64 f0, .int .i64 f1, .int .i64 c0, .int .i64 c1, .int .i64 r0, .int .i64 r1] 25) rfl)
  have hk1 := Rf.alloc_new (w.alloc (.cells #[.int .i64 c, .int .i64 f0, .int .i64 f1, .int .i64 c0, .int .i64 c1, .int .i64 r0, .int .i64 r1] 25)) (.cells #[.int .i64 c, .int .i64 f0, .int .i64 f1, .int .i64 d0, .int .i64 d1, .int .i64 s0, .int .i64 s1] 25) (n := w.heap.size + 1) (by simp)
  have hs0 : w.heap.size + 2 ≤ ((w.alloc (.cells #[.int .i64 c, .int .i64 f0, .int .i64 f1, .int .i64 c0, .int .i64 c1, .int .i64 r0, .int .i64 r1] 25)).alloc (.cells #[.int .i64 c, .int .i64 f0, .int .i64 f1, .int .i64 d0, .int .i64 d1, .int .i64 s0, .int .i64 s1] 25)).heap.size := by simp
  go_wp2_with (first | (go_at_call 30; refine (right7 _ _ _ _ _ _ _ _).mono ?_; rintro r w1 ⟨rfl, hb1⟩; replace hk0 := (hb1.block _ (by omega)).trans hk0; replace hk1 := (hb1.block _ (by omega)).trans hk1; replace hs0 := Nat.le_trans hs0 hb1.size; replace hb0 := hb0.trans (hb1.mono hb0.size); obtain ⟨k0, k1, k2, k3, k4, k5, k6⟩ := cells8 hk0; obtain ⟨l0, l1, l2, l3, l4, l5, l6⟩ := cells8 hk1))
  exact ⟨rfl, _, results_tmp3 rfl _ _ _, rfl, hb0⟩
set_option maxHeartbeats 600000 in
theorem extract_no5b (c f0 f1 c0 c1 r0 r1 d1 s0 s1 : Int) (h4 : c1 ≠ d1) (h : rightB ⟨c, f0, f1, c0, c1, r0, r1⟩ = true) (h' : rightB ⟨c, f0, f1, c0, d1, s0, s1⟩ = false) (w : World) :
    Calls Tryd.prog 12 #[.agg #[.int .i64 c, .int .i64 f0, .int .i64 f1, .int .i64 c0, .int .i64 c1, .int .i64 r0, .int .i64 r1], .agg #[.int .i64 c, .int .i64 f0, .int .i64 f1, .int .i64 c0, .int .i64 d1, .int .i64 s0, .int .i64 s1]] w
      fun e w' => e = .returned (.tuple #[.int .i64 0, .int .i64 0, .bool false]) ∧ Below w.heap.size w w' := by
  have hb : (c1 == d1) = false := by simpa using h4
  go_enter Tryd.func12, Tryd.ntmps12
  have hb0 := ((Below.refl w.heap.size w).alloc (Nat.le_refl _) (.cells #[.int .i64 c, .int .i64 f0, .int .i64 f1, .int .i64 c0, .int .i64 c1, .int .i64 r0, .int .i64 r1] 25)).alloc (by simp) (.cells #[.int .i64 c, .int .i64 f0, .int .i64 f1, .int .i64 c0, .int .i64 d1, .int .i64 s0, .int .i64 s1] 25)
  have hk0 := Rf.alloc_old (.cells #[.int .i64 c, .int .i64 f0, .int .i64 f1, .int .i64 c0, .int .i64 d1, .int .i64 s0, .int .i64 s1] 25) (Rf.alloc_new w (.cells #[.int .i64 c, .int .i64 f0, .int .i64 f1, .int .i64 c0, .int .i64 c1, .int .i64 r0, .int .i64 r1] 25) rfl)
  have hk1 := Rf.alloc_new (w.alloc (.cells #[.int .i64 c, .int .i64 f0, .int .i64 f1, .int .i64 c0, .int .i64 c1, .int .i64 r0, .int .i64 r1] 25)) (.cells #[.int .i64 c, .int .i64 f0, .int .i64 f1, .int .i64 c0, .int .i64 d1, .int .i64 s0, .int .i64 s1] 25) (n := w.heap.size + 1) (by simp)
  have hs0 : w.heap.size + 2 ≤ ((w.alloc (.cells #[.int .i64 c, .int .i64 f0, .int .i64 f1, .int .i64 c0, .int .i64 c1, .int .i64 r0, .int .i64 r1] 25)).alloc (.cells #[.int .i64 c, .int .i64 f0, .int .i64 f1, .int .i64 c0, .int .i64 d1, .int .i64 s0, .int .i64 s1] 25)).heap.size := by simp
  go_wp2_with (first | (go_at_call 30; refine (right7 _ _ _ _ _ _ _ _).mono ?_; rintro r w1 ⟨rfl, hb1⟩; replace hk0 := (hb1.block _ (by omega)).trans hk0; replace hk1 := (hb1.block _ (by omega)).trans hk1; replace hs0 := Nat.le_trans hs0 hb1.size; replace hb0 := hb0.trans (hb1.mono hb0.size); obtain ⟨k0, k1, k2, k3, k4, k5, k6⟩ := cells8 hk0; obtain ⟨l0, l1, l2, l3, l4, l5, l6⟩ := cells8 hk1))
  exact ⟨rfl, _, results_tmp3 rfl _ _ _, rfl, hb0⟩
end Go.Proofs.YtnlgnmlobklobaaDoor.Com
set_option linter.unusedSimpArgs false
set_option linter.unusedVariables false
set_option maxRecDepth 100000
namespace Go.Proofs.YtnlgnmlobklobaaDoor.Com
open Go.RowKit Go.Shelf Go.Proofs.YtnlgnmlobklobaaDoor Go.Proofs.YtnlgnmlobklobaaDoorW.PrintWords
theorem eq7 (d : Nat) (w : World) (a0 a1 a2 a3 a4 a5 a6 b0 b1 b2 b3 b4 b5 b6 : Int) : (Op.equalIn (d + 3) 25 (.agg #[.int .i64 a0, .int .i64 a1, .int .i64 a2, .int .i64 a3, .int .i64 a4, .int .i64 a5, .int .i64 a6])
    (.agg #[.int .i64 b0, .int .i64 b1, .int .i64 b2, .int .i64 b3, .int .i64 b4, .int .i64 b5, .int .i64 b6])).run Tryd.prog w = .ok (a0 == b0 && ((a1 == b1 && a2 == b2) && ((a3 == b3 && a4 == b4) && (a5 == b5 && a6 == b6)))) w := by
  refine eqA_of Tryd.underlying25 (by kernel_rfl) ?_
  refine eqf_cons rfl (a := .int .i64 a0) (b := .int .i64 b0) (by go_simp) (by go_simp) (by go_simp) ?_
  refine eqf_cons rfl (a := .agg #[.int .i64 a1, .int .i64 a2]) (b := .agg #[.int .i64 b1, .int .i64 b2]) (by go_simp) (by go_simp) (eq2 d w a1 a2 b1 b2) ?_
  refine eqf_cons rfl (a := .agg #[.int .i64 a3, .int .i64 a4]) (b := .agg #[.int .i64 b3, .int .i64 b4]) (by go_simp) (by go_simp) (eq2 d w a3 a4 b3 b4) ?_
  exact eqf_last rfl (a := .agg #[.int .i64 a5, .int .i64 a6]) (b := .agg #[.int .i64 b5, .int .i64 b6]) (by go_simp) (by go_simp) (eq2 d w a5 a6 b5 b6)
theorem eq7w (w : World) (a0 a1 a2 a3 a4 a5 a6 b0 b1 b2 b3 b4 b5 b6 : Int) : (Op.equalIn 10000 25 (.agg #[.int .i64 a0, .int .i64 a1, .int .i64 a2, .int .i64 a3, .int .i64 a4, .int .i64 a5, .int .i64 a6])
    (.agg #[.int .i64 b0, .int .i64 b1, .int .i64 b2, .int .i64 b3, .int .i64 b4, .int .i64 b5, .int .i64 b6])).run Tryd.prog w = .ok (a0 == b0 && ((a1 == b1 && a2 == b2) && ((a3 == b3 && a4 == b4) && (a5 == b5 && a6 == b6)))) w := eq7 9997 w _ _ _ _ _ _ _ _ _ _ _ _ _ _
end Go.Proofs.YtnlgnmlobklobaaDoor.Com
