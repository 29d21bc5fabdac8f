/- merkle.Path walked: the loop over the rows collects the steps. -/
import Derived.Test.YtcikhbamdbphaaaMerB
import Derived.Test.YtcikhbamdbphaaaMerH
import Derived.Test.YtcikhbamdbphaaaRd
import Derived.Laws.BitsLemmas
set_option linter.unusedSimpArgs false
set_option linter.unusedVariables false
namespace Go.Proofs.Ytcikhbamdbphaaa.MerC
open Go.RowKit Go.Shelf Go.Proofs.Ytcikhbamdbphaaa.MerA Go.Proofs.Ytcikhbamdbphaaa.MerB
open Go.Proofs.Ytcikhbamdbphaaa.Mer (sib steps pathN)
attribute [local go_sem] Oper.semAt_some
theorem infoF : (Try.prog.info? 42).map (fun i => (i.zero, i.size, i.bytes)) = some (some (.agg #[(.int .u64 0), (.bool false)]), 2, 16) := by kernel_rfl
theorem bits_sib : ∀ q : Nat, q < 1024 → bits .xor .i64 (q : Int) 1 = (sib q : Int) := by decide +kernel
def enc (p : Int × Bool) : List Value := [.int .u64 p.1, .bool p.2]
def JPath (w : World) (R : Obj) (l : List Int) (idx : Nat) (i : Nat) (W : World) : Prop :=
  (∃ v, Boxed W w.heap.size 3 (.int .i64 ((idx / 2 ^ i : Nat) : Int)) ∧ Boxed W (w.heap.size + 1) 25 v ∧ W.ownsRow w.heap.size 42 2 v (pathN l idx i).length ((pathN l idx i).flatMap enc)) ∧
  W.heap[w.heap.size + 3]? = some (.deferred (some [])) ∧ W.heap[w.heap.size + 4]? = some R ∧ Below w.heap.size w W ∧ w.heap.size + 5 ≤ W.heap.size
theorem pathN_length (l : List Int) (idx : Nat) : ∀ i, (pathN l idx i).length ≤ i
  | 0 => Nat.le_refl _
  | i + 1 => by
    have h := pathN_length l idx i
    have : (steps (Mer.rowN l i) (idx / 2 ^ i)).length ≤ 1 := by unfold steps; split <;> simp
    rw [pathN, List.length_append]; omega
def PathEnd (n0 : Nat) (l : List Int) (idx : Nat) (e : Ending) (w' : World) : Prop := ∃ i v, (Mer.rowN l i).length ≤ 1 ∧ (∀ j, j < i → 1 < (Mer.rowN l j).length) ∧
  e = .returned (.tuple #[v, .int .i64 0]) ∧ w'.ownsRow n0 42 2 v (pathN l idx (i + 1)).length ((pathN l idx (i + 1)).flatMap enc)
theorem ne_of_types {w : World} {base : Nat} {e t : TypeId} {size k b : Nat} {v : Value} {xs : List Value} {cur : Array Value} {fr : Nat × Nat} (h : w.ownsRow base e size v k xs) (hb : w.heap[b]? = some (.cells cur t fr)) (hne : t ≠ e) : some b ≠ v.ownBlock := by
  rcases h.2 with ⟨rfl, _⟩ | ⟨g, cap, cur', rfl, _, hgb, _⟩
  · simp [Value.ownBlock]
  · intro e'
    obtain rfl : b = g := by simpa [Value.ownBlock] using e'
    rw [hb] at hgb
    injection hgb with hgb
    injection hgb with _ ht
    exact hne ht
theorem sib_lt (q : Nat) : sib q < q ↔ q % 2 = 1 := by unfold sib; split <;> omega
theorem fin {w w2 W : World} {R : LoopState → Option Code → Obj} {l : List Int} {idx i q b : Nat} {v2 : Value} {a : Act} (hqs : idx / 2 ^ (i + 1) = q / 2) (eq2 : Boxed w2 w.heap.size 3 (.int .i64 (q : Int)))
    (e2 : Boxed w2 (w.heap.size + 1) 25 v2) (e3 : w2.ownsRow w.heap.size 42 2 v2 (pathN l idx (i + 1)).length ((pathN l idx (i + 1)).flatMap enc))
    (p2 : w2.heap[w.heap.size + 3]? = some (.deferred (some []))) (p3 : w2.heap[w.heap.size + 4]? = some (R .busy none)) (pb : w2.heap[b]? = W.heap[b]?) (hbW : b < W.heap.size) (hb : w.heap.size + 5 ≤ b) (hB : Below w.heap.size w w2)
    (hs : w.heap.size + 5 ≤ w2.heap.size) (hRb : (R .busy none).isCells = false) :
    Rf.RoundEnds (w.heap.size + 4) R (fun b' W' => b' = true ∧ JPath w (R .ready none) l idx (i + 1) W' ∧ W'.heap[b]? = W.heap[b]? ∧ w.heap.size + 5 ≤ W'.heap.size) .normal a (w2.setCell ⟨w.heap.size, 0, none⟩ (.int .i64 ((q : Int) / 2))) := by
  have hv := e2
  have p3' := Rf.set_other (b := w.heap.size) (v := .int .i64 ((q : Int) / 2)) p3 (by omega)
  refine ⟨p3', rfl, ⟨⟨v2, ?_, Rf.put_other (Rf.set_other hv (by omega)) (by omega), ownsRow_putObj (e3.kept (grownBy_setCell' _ _ _) (.inr (eq2.not_row (by decide) e3).symm)) _ p3' hRb⟩, Rf.put_other (Rf.set_other p2 (by omega)) (by omega), Rf.put_same _ p3',
    Rf.below_put (hB.setCell (p := ⟨w.heap.size, 0, none⟩) (Nat.le_refl _) _) (by omega) (by rw [Rf.size_set]; omega), by rw [Rf.size_put, Rf.size_set]; omega⟩, ?_, by rw [Rf.size_put, Rf.size_set]; omega⟩
  · have e : (.int .i64 ((idx / 2 ^ (i + 1) : Nat) : Int) : Value) = .int .i64 ((q : Int) / 2) := by rw [hqs]; congr 1
    rw [e]
    exact Rf.put_other (Boxed.set _ eq2) (by omega)
  · have hW : W.heap[b]? = some W.heap[b] := Array.getElem?_eq_getElem hbW
    rw [hW] at pb ⊢
    exact Rf.put_other (Rf.set_other pb (by omega)) (by omega)
set_option maxHeartbeats 1000000 in
theorem path_ok (A : Option Addr) (ls : List ByteArray) (c idx : Nat) (w : World) (hL : LeavesAt w A ls) (hsz : ∀ s ∈ ls, s.size ≤ 140737488351232) (hlen : ls.length ≤ 1024) (hidx : idx < ls.length) :
    Calls Try.prog 15 #[.slice A ls.length c, .int .i64 (idx : Int)] w fun e w' => PathEnd w.heap.size (ls.map Mer.leaf) idx e w' ∧ Below w.heap.size w w' := by
  obtain ⟨ad, rfl, had, hcell⟩ := hL
  have hi0 : ¬ ((idx : Int) < 0) := by omega
  have hi1 : ¬ ((ls.length : Int) ≤ (idx : Int)) := by omega
  refine (callsIn_wide (n := 8)).1 ?_
  refine callsIn_of_wp_marks Try.func15 rfl trivial ?_ rfl
  simp only [Try.ntmps15, List.size_toArray, List.length_cons, List.length_nil, Nat.reduceAdd, Nat.reduceSub, Array.replicate_succ, Array.replicate_zero, List.push_toArray, List.append_toArray, List.nil_append, List.cons_append]
  gi_wp2_with (first | (refine ⟨trivial, ?_⟩; gi_at_call 25; refine (callsIn_wide.2 (check_ok (ls.length : Int) (by omega) (by omega) _)).mono ?_; rintro e w' ⟨rfl, rfl⟩) | (refine ⟨trivial, ?_⟩; gi_at_call 26; refine (callsIn_wide.2 (rows_any _ _ _ _)).mono ?_; rintro e w' ⟨rfl, rfl⟩))
  refine Rf.enter (H := w.heap.size + 3) rfl (by omega) (gf := 37) (lb := #[.pointer (some ⟨w.heap.size + 2, 0, none⟩)]) (by simp [Act.eval]) trivial (enters_of Try.func37 (by kernel_rfl) rfl) (by simp) ?_
  intro fn hfn R hR0
  have hR := Lib.hid hR0
  clear hR0
  obtain ⟨W1, hW1, h0, h1, h2, h3, h4, hs, hb⟩ := Rf.five w (.cells #[.int .i64 (idx : Int)] 3) (.cells #[.slice none 0 0] 25) (.cells #[.slice (some ad) ls.length c] 22) (.deferred (some [])) (R .ready none)
  rw [hW1]
  clear hW1
  refine (rows1_any (w.heap.size + 4) (w.heap.size + 2) 7 (by omega) W1 (JPath w (R .ready none) (ls.map Mer.leaf) idx) ⟨⟨_, by rw [Nat.pow_zero, Nat.div_one]; exact h0, h1, World.ownsRow_nil _ _ _ _⟩, h3, h4, hb, by omega⟩ ls ?hY (by omega) ad c (by simp [World.cell?, h2]) (fun i s hi => (hb.cell (by rw [add_block]; exact had)).trans (hcell i s hi)) (Nat.lt_of_lt_of_le had hb.size) hsz hlen (by omega)).mono ?_
  case hY =>
    rintro i W0 W b cap ⟨⟨v, jq, jv, jr⟩, j2, j3, jb, js⟩ hbw hbb hrow hp hm hbig
    have hil := Mer.rowN_len _ i hbig
    rw [List.length_map] at hil
    have kq : Boxed W _ _ _ := (hbw.block _ (by omega)).trans jq
    have kv : Boxed W _ _ _ := (hbw.block _ (by omega)).trans jv
    have kr := owns_below jr hbw
    have k2 := (hbw.block _ (by omega)).trans j2
    have k3 := (hbw.block _ (by omega)).trans j3
    have hsz2 := hbw.size
    have hq : idx / 2 ^ i < 1024 := Nat.lt_of_le_of_lt (Nat.div_le_self _ _) (by omega)
    have hqs : idx / 2 ^ (i + 1) = idx / 2 ^ i / 2 := by rw [Nat.pow_succ, Nat.div_div_eq_div_mul]
    have hpl := pathN_length (ls.map Mer.leaf) idx i
    refine YieldAt.mono (Rf.round (S := fun b' W' => b' = true ∧ JPath w (R .ready none) (ls.map Mer.leaf) idx (i + 1) W' ∧ W'.heap[b]? = W.heap[b]? ∧ W1.heap.size ≤ W'.heap.size) hR.out hfn k3 (by rfl) ?_) ?_
    · have hrow2 : RowAt (W.putObj (w.heap.size + 4) (R .busy none)) b (Mer.rowN (ls.map Mer.leaf) i) cap := by
        obtain ⟨cur, h1, h2⟩ := hrow
        exact ⟨cur, Rf.put_other h1 (by omega), h2⟩
      have kq' : Boxed _ _ _ _ := Rf.put_other (l := w.heap.size + 4) (o := R .busy none) kq (by omega)
      have kv' : Boxed _ _ _ _ := Rf.put_other (l := w.heap.size + 4) (o := R .busy none) kv (by omega)
      have kr' : (W.putObj (w.heap.size + 4) (R .busy none)).ownsRow _ _ _ _ _ _ := ownsRow_putObj kr _ k3 (by rw [hR.out]; rfl)
      have k2' := Rf.put_other (l := w.heap.size + 4) (o := R .busy none) k2 (by omega)
      have k3' := Rf.put_same (R .busy none) k3
      have hsz3 := Rf.size_put W (w.heap.size + 4) (R .busy none)
      have hb3 : Below w.heap.size w (W.putObj (w.heap.size + 4) (R .busy none)) := Rf.below_put (jb.trans (hbw.mono (by omega))) (by omega) (by omega)
      have hbl : ∀ x, W.heap[b]? = some x → (W.putObj (w.heap.size + 4) (R .busy none)).heap[b]? = some x := fun x h => Rf.put_other h (by omega)
      gi_wp2
      refine ⟨rfl, ?_⟩
      generalize W.putObj (w.heap.size + 4) (R .busy none) = Wb at *
      have cq := kq'.cell
      have fq := kq'.frozen
      have cv := kv'.cell
      have fv := kv'.frozen
      obtain ⟨q, hqE⟩ : ∃ q, idx / 2 ^ i = q := ⟨_, rfl⟩
      rw [hqE] at kq kq' hq hqs cq
      have HQ := Lib.hid hqE
      clear hqE
      have hbw2 : b < W.heap.size := by obtain ⟨cur, hcur, _⟩ := hrow; exact (Array.getElem?_eq_some_iff.1 hcur).1
      have hxq := bits_sib q hq
      have hbW := hb3.size
      by_cases ho : sib q < (Mer.rowN (ls.map Mer.leaf) i).length
      · have c0 := row_cell hrow2 (sib q) ho
        obtain ⟨i0, hi0, hz0, hz1, hz2⟩ := info_parts infoF
        have HI := Lib.hid hi0; have HZ0 := Lib.hid hz0; have HZ1 := Lib.hid hz1; have HZ2 := Lib.hid hz2
        clear hi0 hz0 hz1 hz2
        gi_wp2
        refine Rd.held_round (fun W' => W'.cell? ⟨b, sib q, none⟩ = some (.int .u64 (Mer.rowN (ls.map Mer.leaf) i)[sib q]) ∧ W'.cell? ⟨w.heap.size + 1, 0, none⟩ = some v ∧ W'.cell? ⟨w.heap.size, 0, none⟩ = some (.int .i64 (q : Int))) 11 (by kernel_rfl) (by kernel_rfl) (by intro ⟨a, w, h⟩; exact h) fun V hV => ?_
        have hS : V.cell? ⟨b, sib q, none⟩ = some (.int .u64 (Mer.rowN (ls.map Mer.leaf) i)[sib q]) ∧ V.cell? ⟨w.heap.size + 1, 0, none⟩ = some v ∧ V.cell? ⟨w.heap.size, 0, none⟩ = some (.int .i64 (q : Int)) := by rw [hV]; exact ⟨c0, cv, cq⟩
        have krW : V.ownsRow w.heap.size 42 2 v (pathN (ls.map Mer.leaf) idx i).length ((pathN (ls.map Mer.leaf) idx i).flatMap enc) := by rw [hV]; exact kr'.drew
        have hVs : V.heap.size = Wb.heap.size := by rw [hV]; rfl
        have hVh := Lib.hid (show ∀ k : Nat, V.heap[k]? = Wb.heap[k]? by intro k; rw [hV]; rfl)
        have hVb : Below w.heap.size w V := by rw [hV]; exact hb3.drew
        have hVz := Lib.hid hVs
        clear hV hVs
        refine Rd.take (i := 0) (v := v) rfl (by kernel_rfl) (by kernel_rfl) (by kernel_rfl) (by kernel_rfl) (fun _ _ _ h => h) (Or.inl ⟨by rfl, ?_⟩) hS ?_
        · intro w' hSw; obtain ⟨s1, s2, s3⟩ := hSw; go_simp
        simp only [Act.put, List.setIfInBounds_toArray, List.set_cons_zero, List.set_cons_succ]
        refine Rd.take (i := 1) (v := .slice (some ⟨b, 0, none⟩) (Mer.rowN (ls.map Mer.leaf) i).length cap) rfl (by kernel_rfl) (by kernel_rfl) (by kernel_rfl) (by kernel_rfl) (fun _ _ _ h => h) (Or.inl ⟨by rfl, ?_⟩) hS ?_
        · intro w' hSw; obtain ⟨s1, s2, s3⟩ := hSw; go_simp
        simp only [Act.put, List.setIfInBounds_toArray, List.set_cons_zero, List.set_cons_succ]
        refine Rd.take (i := 2) (v := .int .i64 (sib q : Int)) rfl (by kernel_rfl) (by kernel_rfl) (by kernel_rfl) (by kernel_rfl) (fun _ _ _ h => h) (Or.inl ⟨by rfl, ?_⟩) hS ?_
        · intro w' hSw; obtain ⟨s1, s2, s3⟩ := hSw; go_simp
        simp only [Act.put, List.setIfInBounds_toArray, List.set_cons_zero, List.set_cons_succ]
        refine Rd.take (i := 3) (v := .pointer (some ⟨b, sib q, none⟩)) rfl (by kernel_rfl) (by kernel_rfl) (by kernel_rfl) (by kernel_rfl) (fun _ _ _ h => h) (Or.inl ⟨by rfl, ?_⟩) hS ?_
        · intro w' hSw; obtain ⟨s1, s2, s3⟩ := hSw; go_simp
        simp only [Act.put, List.setIfInBounds_toArray, List.set_cons_zero, List.set_cons_succ]
        refine Rd.take (i := 4) (v := .int .u64 (Mer.rowN (ls.map Mer.leaf) i)[sib q]) rfl (by kernel_rfl) (by kernel_rfl) (by kernel_rfl) (by kernel_rfl) (fun _ _ _ h => h) (Or.inl ⟨by rfl, ?_⟩) hS ?_
        · intro w' hSw; obtain ⟨s1, s2, s3⟩ := hSw; go_simp
        simp only [Act.put, List.setIfInBounds_toArray, List.set_cons_zero, List.set_cons_succ]
        refine Rd.take (i := 5) (v := .int .i64 (sib q : Int)) rfl (by kernel_rfl) (by kernel_rfl) (by kernel_rfl) (by kernel_rfl) (fun _ _ _ h => h) (Or.inl ⟨by rfl, ?_⟩) hS ?_
        · intro w' hSw; obtain ⟨s1, s2, s3⟩ := hSw; go_simp
        simp only [Act.put, List.setIfInBounds_toArray, List.set_cons_zero, List.set_cons_succ]
        refine Rd.take (i := 6) (v := .int .i64 (q : Int)) rfl (by kernel_rfl) (by kernel_rfl) (by kernel_rfl) (by kernel_rfl) (fun _ _ _ h => h) (Or.inl ⟨by rfl, ?_⟩) hS ?_
        · intro w' hSw; obtain ⟨s1, s2, s3⟩ := hSw; go_simp
        simp only [Act.put, List.setIfInBounds_toArray, List.set_cons_zero, List.set_cons_succ]
        refine Rd.take (i := 7) (v := .bool (decide (sib q < q))) rfl (by kernel_rfl) (by kernel_rfl) (by kernel_rfl) (by kernel_rfl) (fun _ _ _ h => h) (Or.inl ⟨by rfl, ?_⟩) hS ?_
        · intro w' hSw; obtain ⟨s1, s2, s3⟩ := hSw; go_simp
        simp only [Act.put, List.setIfInBounds_toArray, List.set_cons_zero, List.set_cons_succ]
        refine Rd.take (i := 8) (v := .agg #[.int .u64 (Mer.rowN (ls.map Mer.leaf) i)[sib q], .bool (decide (sib q < q))]) rfl (by kernel_rfl) (by kernel_rfl) (by kernel_rfl) (by kernel_rfl) (fun _ _ _ h => h) (Or.inl ⟨by rfl, ?_⟩) hS ?_
        · intro w' hSw; obtain ⟨s1, s2, s3⟩ := hSw; go_simp
        simp only [Act.put, List.setIfInBounds_toArray, List.set_cons_zero, List.set_cons_succ]
        refine Rd.one (i := 9) rfl (by kernel_rfl) rfl fun K hK => ?_
        go_simp
        refine hK.out _ _ (fun _ => ?_) ?_
        · exact ⟨(World.grownBy_alloc V _ none).cell hS.1 (by simp), (World.grownBy_alloc V _ none).cell hS.2.1 (by simp), (World.grownBy_alloc V _ none).cell hS.2.2 (by simp)⟩
        clear hK K
        refine Rd.one (i := 10) rfl (by kernel_rfl) rfl fun K hK => ?_
        refine wp_append_lies _ _ _ 25 (by rfl) w.heap.size 42 i0 (.agg #[(.int .u64 0), (.bool false)]) 2 16 Try.underlying25 HI.out HZ0.out HZ1.out HZ2.out rfl (by decide) _ _ _ (by rfl) (krW.alloc _) ⟨V.heap.size, 0, none⟩ 1 1 [.int .u64 (Mer.rowN (ls.map Mer.leaf) i)[sib q], .bool (decide (sib q < q))] (by rfl) rfl (World.news_of_block (World.alloc_heap_new V _)) (by simp [Value.oneCell']) (by decide) (by unfold maxLen; omega) (by omega) (by simp; have := hVb.size; omega) _ rfl ?_
        intro g2 cap2 w1 hown' hgrow hat hlt
        have hBx : Boxed V (w.heap.size + 1) 25 v := (hVh.out _).trans kv'
        have hBq : Boxed V w.heap.size 3 (.int .i64 (q : Int)) := (hVh.out _).trans kq'
        obtain ⟨e1, e2, e3, e4, e5⟩ := hBx.appended (by decide) krW hVb.size (by omega) hown' hgrow
        have eq1 : Boxed w1 w.heap.size 3 (.int .i64 (q : Int)) := (hBq.alloc _).kept hgrow (hBq.not_row (by decide) krW)
        refine hK.out _ _ (fun _ => ⟨?_, e1.cell, eq1.cell⟩) ?_
        · obtain ⟨cur, hcur, _⟩ := hrow2
          have hcV := (hVh.out b).trans hcur
          exact far_new hgrow (ne_of_types krW hcV (by decide)) (Array.getElem?_eq_some_iff.1 hcV).1 hS.1
        clear hK K
        refine Rd.one (i := 11) rfl (by kernel_rfl) rfl fun K hK => ?_
        have c11 := e1.cell
        have f11 := e1.frozen
        go_simp
        refine hK.out _ _ (fun h => absurd rfl h) ?_
        refine Rd.done (by kernel_rfl) ?_
        have eq2 := eq1.other (B' := w.heap.size + 1) (by omega) (.slice (some ⟨g2, 0, none⟩) ((pathN (ls.map Mer.leaf) idx i).length + 1) cap2)
        have s11 := Rf.size_set w1 (w.heap.size + 1) (.slice (some ⟨g2, 0, none⟩) ((pathN (ls.map Mer.leaf) idx i).length + 1) cap2)
        have p2 : (w1.setCell ⟨w.heap.size + 1, 0, none⟩ (.slice (some ⟨g2, 0, none⟩) ((pathN (ls.map Mer.leaf) idx i).length + 1) cap2)).heap[w.heap.size + 3]? = some (.deferred (some [])) := e4.same _ _ ((hVh.out _).trans k2') rfl
        have p3 : (w1.setCell ⟨w.heap.size + 1, 0, none⟩ (.slice (some ⟨g2, 0, none⟩) ((pathN (ls.map Mer.leaf) idx i).length + 1) cap2)).heap[w.heap.size + 4]? = some (R .busy none) := e4.same _ _ ((hVh.out _).trans k3') (by rw [hR.out]; rfl)
        have pb : (w1.setCell ⟨w.heap.size + 1, 0, none⟩ (.slice (some ⟨g2, 0, none⟩) ((pathN (ls.map Mer.leaf) idx i).length + 1) cap2)).heap[b]? = W.heap[b]? := by
          obtain ⟨cur, hcur, _⟩ := hrow
          rw [hcur]
          have hcV := (hVh.out b).trans (hbl _ hcur)
          exact Rf.set_other ((hgrow.block b (by simp; have := (Array.getElem?_eq_some_iff.1 hcV).1; omega) (ne_of_types krW hcV (by decide))).trans (Rf.alloc_old _ hcV)) (by omega)
        generalize w1.setCell ⟨w.heap.size + 1, 0, none⟩ (.slice (some ⟨g2, 0, none⟩) ((pathN (ls.map Mer.leaf) idx i).length + 1) cap2) = w2 at *
        have cq2 := eq2.cell
        have fq2 := eq2.frozen
        clear cq fq cv fv c11 f11 c0 hS
        gi_wp2
        have hst : pathN (ls.map Mer.leaf) idx (i + 1) = pathN (ls.map Mer.leaf) idx i ++ [((Mer.rowN (ls.map Mer.leaf) i)[sib q], decide (sib q < q))] := by
          rw [pathN, HQ.out, steps, if_pos ho, List.getD_eq_getElem?_getD, List.getElem?_eq_getElem ho]; rfl
        refine fin hqs eq2 e2 ?_ p2 p3 pb hbw2 (by omega) (hVb.trans e5) (by have := hgrow.size; have := hVz.out; simp at *; omega) (by rw [hR.out]; rfl)
        rw [hst, List.length_append, List.flatMap_append]
        exact e3
      · gi_wp2
        have hst : pathN (ls.map Mer.leaf) idx (i + 1) = pathN (ls.map Mer.leaf) idx i := by
          rw [pathN, HQ.out, steps, if_neg ho, List.append_nil]
        refine fin hqs kq' kv' ?_ k2' k3' ?_ hbw2 (by omega) hb3 (by omega) (by rw [hR.out]; rfl)
        · rw [hst]; exact kr'
        · obtain ⟨cur, hcur, _⟩ := hrow
          rw [hcur]; exact hbl _ hcur
    · rintro e W' ⟨b', rfl, rfl, r1, r2, r3⟩
      exact ⟨rfl, r1, r2, r3⟩
  rintro e W2 ⟨⟨v, rfl⟩, i, hi1, hi2, ⟨v2, jq, jv, jr⟩, j2, j3, jb, js⟩
  refine ⟨v, .ready, none, rfl, by decide, j3, ?_⟩
  have jv' : Boxed (W2.putObj (w.heap.size + 4) (R .exhausted none)) _ _ _ := Rf.put_other (l := w.heap.size + 4) (o := R .exhausted none) jv (by omega)
  have c0 := jv'.cell
  have d0 := Rf.put_other (l := w.heap.size + 4) (o := R .exhausted none) j2 (by omega)
  have b0 : Below w.heap.size w (W2.putObj (w.heap.size + 4) (R .exhausted none)) := Rf.below_put jb (by omega) (by omega)
  have r0 := ownsRow_putObj jr (R .exhausted none) j3 (by rw [hR.out]; rfl)
  show Exit.inBlock _ _ _ _ (W2.putObj (w.heap.size + 4) (R .exhausted none))
  generalize W2.putObj (w.heap.size + 4) (R .exhausted none) = W3 at *
  gi_wp2
  refine ⟨by simp, .inl ⟨_, _, rfl, run_takeDeferred d0, ?_⟩⟩
  exact ⟨_, results_tmp2 rfl _ _ _, ⟨i, v2, hi1, hi2, rfl, ownsRow_putObj r0 _ d0 rfl⟩, Rf.below_put b0 (by omega) (by have := b0.size; omega)⟩
theorem path_none (A : Option Addr) (c : Nat) (i : Int) (w : World) :
    Calls Try.prog 15 #[.slice A 0 c, .int .i64 i] w fun e w' => e = .returned (.tuple #[.slice none 0 0, .int .i64 1]) ∧ Below w.heap.size w w' := by
  go_enter Try.func15, Try.ntmps15
  go_wp2_with (go_at_call 25; refine (check_none _).mono ?_; rintro e w' ⟨rfl, rfl⟩)
  go_ret2
  exact ⟨rfl, (Below.refl _ _).alloc (Nat.le_refl _) _⟩
theorem path_many (A : Option Addr) (m c : Nat) (hm : 1024 < m) (i : Int) (w : World) :
    Calls Try.prog 15 #[.slice A m c, .int .i64 i] w fun e w' => e = .returned (.tuple #[.slice none 0 0, .int .i64 2]) ∧ Below w.heap.size w w' := by
  go_enter Try.func15, Try.ntmps15
  go_wp2_with (go_at_call 25; refine (check_many (m : Int) (by omega) _).mono ?_; rintro e w' ⟨rfl, rfl⟩)
  go_ret2
  exact ⟨rfl, (Below.refl _ _).alloc (Nat.le_refl _) _⟩
theorem path_out (A : Option Addr) (m c : Nat) (hm0 : 0 < m) (hm : m ≤ 1024) (i : Int) (hi : i < 0 ∨ (m : Int) ≤ i) (w : World) :
    Calls Try.prog 15 #[.slice A m c, .int .i64 i] w fun e w' => e = .returned (.tuple #[.slice none 0 0, .int .i64 1]) ∧ Below w.heap.size w w' := by
  by_cases h : i < 0
  · go_enter Try.func15, Try.ntmps15
    go_wp2_with (go_at_call 25; refine (check_ok (m : Int) (by omega) (by omega) _).mono ?_; rintro e w' ⟨rfl, rfl⟩)
    go_ret2
    exact ⟨rfl, (Below.refl _ _).alloc (Nat.le_refl _) _⟩
  · have h1 : ¬ (i < 0) := h
    have h2 : i ≥ (m : Int) := by omega
    clear hi
    go_enter Try.func15, Try.ntmps15
    go_wp2_with (go_at_call 25; refine (check_ok (m : Int) (by omega) (by omega) _).mono ?_; rintro e w' ⟨rfl, rfl⟩)
    go_ret2
    exact ⟨rfl, (Below.refl _ _).alloc (Nat.le_refl _) _⟩
end Go.Proofs.Ytcikhbamdbphaaa.MerC
