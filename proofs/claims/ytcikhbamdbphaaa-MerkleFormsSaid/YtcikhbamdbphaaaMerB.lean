/- merkle.Root walked: the loop over the rows keeps the first digest of the row. -/
import Derived.Test.YtcikhbamdbphaaaMerA
namespace Go.Proofs.Ytcikhbamdbphaaa.MerB
open Go.RowKit Go.Shelf Go.Proofs.Ytcikhbamdbphaaa.MerA
attribute [local go_sem] Oper.semAt_some
theorem check_ok (n : Int) (h0 : 0 < n) (h1 : n ≤ 1024) (w : World) : Calls Try.prog 25 #[.int .i64 n] w fun e w' => e = .returned (.int .i64 0) ∧ w = w' := by
  have e1 : (n == 0) = false := by simp; omega
  have e2 : ¬ n > 1024 := by omega
  go_enter Try.func25, Try.ntmps25
  go_wp2
  go_ret
  exact ⟨rfl, rfl⟩
theorem check_none (w : World) : Calls Try.prog 25 #[.int .i64 0] w fun e w' => e = .returned (.int .i64 1) ∧ w = w' := by
  go_enter Try.func25, Try.ntmps25
  go_wp2
  go_ret
  exact ⟨rfl, rfl⟩
theorem check_many (n : Int) (h1 : 1024 < n) (w : World) : Calls Try.prog 25 #[.int .i64 n] w fun e w' => e = .returned (.int .i64 2) ∧ w = w' := by
  have e1 : (n == 0) = false := by simp; omega
  go_enter Try.func25, Try.ntmps25
  go_wp2
  go_ret
  exact ⟨rfl, rfl⟩
theorem rows_any (A : Option Addr) (m c : Nat) (w : World) : Calls Try.prog 26 #[.slice A m c] w fun e w' => e = .returned (.func (.func 37) #[] #[.pointer (some ⟨w.heap.size, 0, none⟩)]) ∧ w' = w.alloc (.cells #[.slice A m c] 22) := by
  go_enter Try.func26, Try.ntmps26
  go_wp2
  go_ret
  exact ⟨rfl, rfl⟩
/-- The leaves as a slice of strings. -/
def LeavesAt (w : World) (A : Option Addr) (ls : List ByteArray) : Prop := ∃ ad, A = some ad ∧ ad.block < w.heap.size ∧ ∀ (i : Nat) s, ls[i]? = some s → w.cell? (ad.add i) = some (.string s)
def JRoot (w : World) (R : Obj) (l : List Int) (i : Nat) (W : World) : Prop :=
  W.heap[w.heap.size]? = some (.cells #[.int .u64 (if i = 0 then 0 else (Mer.rowN l (i - 1)).getD 0 0)] 24 (0, 0)) ∧ W.heap[w.heap.size + 2]? = some (.deferred (some [])) ∧ W.heap[w.heap.size + 3]? = some R ∧ Below w.heap.size w W ∧ w.heap.size + 4 ≤ W.heap.size
set_option maxHeartbeats 1000000 in
theorem root_ok (A : Option Addr) (ls : List ByteArray) (c : Nat) (w : World) (hL : LeavesAt w A ls) (hsz : ∀ s ∈ ls, s.size ≤ 140737488351232) (hlen : ls.length ≤ 1024) (hpos : 0 < ls.length) :
    Calls Try.prog 13 #[.slice A ls.length c] w fun e w' => (∃ i, (Mer.rowN (ls.map Mer.leaf) i).length ≤ 1 ∧ (∀ j, j < i → 1 < (Mer.rowN (ls.map Mer.leaf) j).length) ∧
      e = .returned (.tuple #[.int .u64 ((Mer.rowN (ls.map Mer.leaf) i).getD 0 0), .int .i64 0])) ∧ Below w.heap.size w w' := by
  obtain ⟨ad, rfl, had, hcell⟩ := hL
  refine (callsIn_wide (n := 8)).1 ?_
  refine callsIn_of_wp_marks Try.func13 rfl trivial ?_ rfl
  simp only [Try.ntmps13, List.size_toArray, List.length_cons, List.length_nil, Nat.reduceAdd, Nat.reduceSub, Array.replicate_succ, Array.replicate_zero, List.push_toArray, List.append_toArray, List.nil_append, List.cons_append]
  gi_wp2_with (first | (refine ⟨trivial, ?_⟩; gi_at_call 25; refine (callsIn_wide.2 (check_ok (ls.length : Int) (by omega) (by omega) _)).mono ?_; rintro e w' ⟨rfl, rfl⟩) | (refine ⟨trivial, ?_⟩; gi_at_call 26; refine (callsIn_wide.2 (rows_any _ _ _ _)).mono ?_; rintro e w' ⟨rfl, rfl⟩))
  refine Rf.enter (H := w.heap.size + 2) rfl (by omega) (gf := 37) (lb := #[.pointer (some ⟨w.heap.size + 1, 0, none⟩)]) (by simp [Act.eval]) trivial (enters_of Try.func37 (by kernel_rfl) rfl) (by simp) ?_
  intro fn hfn R hR0
  have hR := Lib.hid hR0
  clear hR0
  obtain ⟨W1, hW1, h0, h1, h2, h3, hs, hb⟩ := Rf.four w (.cells #[.int .u64 0] 24) (.cells #[.slice (some ad) ls.length c] 22) (.deferred (some [])) (R .ready none)
  rw [hW1]
  clear hW1
  refine (rows1_any (w.heap.size + 3) (w.heap.size + 1) 7 (by omega) W1 (JRoot w (R .ready none) (ls.map Mer.leaf)) ⟨h0, h2, h3, hb, by omega⟩ ls ?hY (by omega) ad c (by simp [World.cell?, h1]) (fun i s hi => (hb.cell (by rw [add_block]; exact had)).trans (hcell i s hi)) (Nat.lt_of_lt_of_le had hb.size) hsz hlen hpos).mono ?_
  case hY =>
    rintro i W0 W b cap ⟨j0, j2, j3, jb, js⟩ hbw hbb hrow hp hm _
    have k0 := (hbw.block _ (by omega)).trans j0
    have k2 := (hbw.block _ (by omega)).trans j2
    have k3 := (hbw.block _ (by omega)).trans j3
    have hsz2 := hbw.size
    refine YieldAt.mono (Rf.round (S := fun b' W' => b' = true ∧ JRoot w (R .ready none) (ls.map Mer.leaf) (i + 1) W' ∧ W'.heap[b]? = W.heap[b]? ∧ W1.heap.size ≤ W'.heap.size) hR.out hfn k3 (by rfl) ?_) ?_
    · have hrow2 : RowAt (W.putObj (w.heap.size + 3) (R .busy none)) b (Mer.rowN (ls.map Mer.leaf) i) cap := by
        obtain ⟨cur, h1, h2⟩ := hrow
        exact ⟨cur, Rf.put_other h1 (by omega), h2⟩
      have k0' := Rf.put_other (l := w.heap.size + 3) (o := R .busy none) k0 (by omega)
      have k2' := Rf.put_other (l := w.heap.size + 3) (o := R .busy none) k2 (by omega)
      have k3' := Rf.put_same (R .busy none) k3
      have hsz3 := Rf.size_put W (w.heap.size + 3) (R .busy none)
      have hb3 : Below w.heap.size w (W.putObj (w.heap.size + 3) (R .busy none)) := Rf.below_put (jb.trans (hbw.mono (by omega))) (by omega) (by omega)
      have hbl : ∀ x, W.heap[b]? = some x → (W.putObj (w.heap.size + 3) (R .busy none)).heap[b]? = some x := fun x h => Rf.put_other h (by omega)
      gi_wp2
      refine ⟨rfl, ?_⟩
      generalize W.putObj (w.heap.size + 3) (R .busy none) = Wb at *
      have c0 := row_cell hrow2 0 hp
      have cb := Boxed.cell k0'
      have fb : Wb.frozen? ⟨w.heap.size, 0, none⟩ = false := Tool.free_blk k0' 0
      gi_wp2
      obtain ⟨cur, hcur, _⟩ := hrow
      refine ⟨Rf.set_other k3' (by omega), rfl, ⟨?_, Rf.put_other (Rf.set_other k2' (by omega)) (by omega), Rf.put_same _ (Rf.set_other k3' (by omega)), Rf.below_put (hb3.setCell (p := ⟨w.heap.size, 0, none⟩) (Nat.le_refl _) _) (by omega) (by rw [Rf.size_set]; omega), by rw [Rf.size_put, Rf.size_set]; omega⟩, ?_, by rw [Rf.size_put, Rf.size_set]; omega⟩
      · have e : (Mer.rowN (ls.map Mer.leaf) i)[0] = if i + 1 = 0 then 0 else (Mer.rowN (ls.map Mer.leaf) (i + 1 - 1)).getD 0 0 := by
          rw [if_neg (by omega), Nat.add_sub_cancel, List.getD_eq_getElem?_getD, List.getElem?_eq_getElem hp]; rfl
        rw [← e]
        exact Rf.put_other (Boxed.set _ k0') (by omega)
      · rw [hcur]
        exact Rf.put_other (Rf.set_other (hbl _ hcur) (by omega)) (by omega)
    · rintro e W' ⟨b', rfl, rfl, r1, r2, r3⟩
      exact ⟨rfl, r1, r2, r3⟩
  rintro e W2 ⟨⟨v, rfl⟩, i, hi1, hi2, j0, j2, j3, jb, js⟩
  refine ⟨v, .ready, none, rfl, by decide, j3, ?_⟩
  have c0 := Boxed.cell (Rf.put_other (l := w.heap.size + 3) (o := R .exhausted none) j0 (by omega))
  have d0 := Rf.put_other (l := w.heap.size + 3) (o := R .exhausted none) j2 (by omega)
  have b0 : Below w.heap.size w (W2.putObj (w.heap.size + 3) (R .exhausted none)) := Rf.below_put jb (by omega) (by omega)
  show Exit.inBlock _ _ _ _ (W2.putObj (w.heap.size + 3) (R .exhausted none))
  generalize W2.putObj (w.heap.size + 3) (R .exhausted none) = W3 at *
  gi_wp2
  refine ⟨by simp, .inl ⟨_, _, rfl, run_takeDeferred d0, ?_⟩⟩
  exact ⟨_, results_tmp2 rfl _ _ _, ⟨i, hi1, hi2, rfl⟩, Rf.below_put b0 (by omega) (by have := b0.size; omega)⟩
theorem root_none (A : Option Addr) (c : Nat) (w : World) :
    Calls Try.prog 13 #[.slice A 0 c] w fun e w' => e = .returned (.tuple #[.int .u64 0, .int .i64 1]) ∧ Below w.heap.size w w' := by
  go_enter Try.func13, Try.ntmps13
  go_wp2_with (go_at_call 25; refine (check_none _).mono ?_; rintro e w' ⟨rfl, rfl⟩)
  go_ret2
  exact ⟨rfl, Below.refl _ _⟩
theorem root_many (A : Option Addr) (m c : Nat) (hm : 1024 < m) (w : World) :
    Calls Try.prog 13 #[.slice A m c] w fun e w' => e = .returned (.tuple #[.int .u64 0, .int .i64 2]) ∧ Below w.heap.size w w' := by
  go_enter Try.func13, Try.ntmps13
  go_wp2_with (go_at_call 25; refine (check_many (m : Int) (by omega) _).mono ?_; rintro e w' ⟨rfl, rfl⟩)
  go_ret2
  exact ⟨rfl, Below.refl _ _⟩
end Go.Proofs.Ytcikhbamdbphaaa.MerB
