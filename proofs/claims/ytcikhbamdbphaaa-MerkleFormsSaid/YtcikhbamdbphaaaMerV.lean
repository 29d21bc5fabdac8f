/- merkle.collect over merkle.texts walked: the loop collects the strings. -/
import Derived.Test.YtcikhbamdbphaaaMerU
set_option linter.unusedSimpArgs false
set_option linter.unusedVariables false
namespace Go.Proofs.Ytcikhbamdbphaaa.MerV
open Go.RowKit Go.Shelf Go.Proofs.Ytcikhbamdbphaaa.MerA Go.Proofs.Ytcikhbamdbphaaa.Mer Go.Proofs.Ytcikhbamdbphaaa.MerC Go.Proofs.Ytcikhbamdbphaaa.MerT Go.Proofs.Ytcikhbamdbphaaa.MerU
attribute [local go_sem] Oper.semAt_some
theorem infoS : (Try.prog.info? 9).map (fun i => (i.zero, i.size, i.bytes)) = some (some (.string ⟨#[]⟩), 1, 16) := by kernel_rfl
/-- What collect answers. -/
def Coll (n1 : Nat) (res : Option (List ByteArray)) (e : Ending) (w' : World) : Prop :=
  (∃ ts v, res = some ts ∧ e = .returned (.tuple #[v, .bool true]) ∧ w'.ownsRow n1 9 1 v ts.length (ts.map Value.string)) ∨ (res = none ∧ e = .returned (.tuple #[.slice none 0 0, .bool false]))
def JC (B n1 : Nat) (w : World) (R : Obj) (ts : List ByteArray) (W : World) : Prop :=
  (∃ v, Boxed W n1 22 (.slice none 0 0) ∧ Boxed W (n1 + 1) 4 (.bool false) ∧ Boxed W (n1 + 2) 22 v ∧ W.ownsRow n1 9 1 v ts.length (ts.map Value.string)) ∧
  W.heap[n1 + 3]? = some (.deferred (some [])) ∧ W.heap[n1 + 4]? = some R ∧ Below B w W ∧ n1 + 5 ≤ W.heap.size
def JX (B n1 : Nat) (w : World) (R : Obj) (W : World) : Prop :=
  Boxed W n1 22 (.slice none 0 0) ∧ Boxed W (n1 + 1) 4 (.bool false) ∧ W.heap[n1 + 3]? = some (.deferred (some [])) ∧ W.heap[n1 + 4]? = some R ∧ Below B w W ∧ n1 + 5 ≤ W.heap.size
theorem JC.stable {B n1 : Nat} {w : World} {R : Obj} (hw : n1 ≤ w.heap.size) : ∀ pre W W', JC B n1 w R pre W → Below B W W' → (∀ k, n1 ≤ k → k < W.heap.size → W'.heap[k]? = W.heap[k]?) → JC B n1 w R pre W' := by
  rintro pre W W' ⟨⟨v, h1, h2, h3, h4⟩, h5, h6, h7, h8⟩ hb hk
  refine ⟨⟨v, (hk _ (by omega) (by omega)).trans h1, (hk _ (by omega) (by omega)).trans h2, (hk _ (by omega) (by omega)).trans h3, ?_⟩, (hk _ (by omega) (by omega)).trans h5, (hk _ (by omega) (by omega)).trans h6, h7.trans hb, Nat.le_trans h8 hb.size⟩
  obtain ⟨g1, g2⟩ := h4
  refine ⟨g1, ?_⟩
  rcases g2 with g2 | ⟨g, cap, cur, e1, e2, e3, e4⟩
  · exact .inl g2
  · exact .inr ⟨g, cap, cur, e1, e2, (hk _ e2 (Array.getElem?_eq_some_iff.1 e3).1).trans e3, e4⟩
theorem owns_form {W : World} {base : Nat} {e : TypeId} {size : Nat} {v : Value} {k : Nat} {xs : List Value} (h : W.ownsRow base e size v k xs) : ∃ A m c, v = .slice A m c := by
  rcases h.2 with ⟨h, _⟩ | ⟨g, cap, _, h, _⟩
  · exact ⟨_, _, _, h⟩
  · exact ⟨_, _, _, h⟩
set_option maxHeartbeats 4000000 in
theorem collect_any (B : Nat) (w : World) (hBn : B + 4 ≤ w.heap.size) (s i : Int) (leaf : ByteArray) (hlf : leaf.size ≤ 140737488351232) (v : Value) (hst : StI B w s i leaf v) (r : List (Int × Bool)) (hp : PathAt B w v r) (hok : ∀ p ∈ r, 0 ≤ p.1 ∧ p.1 ≤ 18446744073709551615) :
    Calls Try.prog 30 #[.func (.func 41) #[] #[.pointer (some ⟨B, 0, none⟩), .pointer (some ⟨B + 1, 0, none⟩), .pointer (some ⟨B + 2, 0, none⟩), .pointer (some ⟨B + 3, 0, none⟩)]] w
      fun e w' => Coll w.heap.size (texts s i leaf r) e w' ∧ Below B w w' := by
  refine (callsIn_wide (n := 8)).1 ?_
  refine callsIn_of_wp_marks Try.func30 rfl trivial ?_ rfl
  simp only [Try.ntmps30, List.size_toArray, List.length_cons, List.length_nil, Nat.reduceAdd, Nat.reduceSub, Array.replicate_succ, Array.replicate_zero, List.push_toArray, List.append_toArray, List.nil_append, List.cons_append]
  gi_wp2
  refine Rf.enter (H := w.heap.size + 3) rfl (by omega) (gf := 41) (lb := #[.pointer (some ⟨B, 0, none⟩), .pointer (some ⟨B + 1, 0, none⟩), .pointer (some ⟨B + 2, 0, none⟩), .pointer (some ⟨B + 3, 0, none⟩)]) (by simp [Act.eval]) trivial (enters_of Try.func41 (by kernel_rfl) rfl) (by simp) ?_
  intro fn hfn R hR0
  have hR := Lib.hid hR0
  clear hR0
  obtain ⟨W1, hW1, h0, h1, h2, h3, h4, hs, hb⟩ := Rf.five w (.cells #[.slice none 0 0] 22) (.cells #[.bool false] 4) (.cells #[.slice none 0 0] 22) (.deferred (some [])) (R .ready none)
  rw [hW1]
  clear hW1
  have hst1 : StI B W1 s i leaf v := ⟨(hb.block _ (by omega)).trans hst.1, (hb.block _ (by omega)).trans hst.2.1, (hb.block _ (by omega)).trans hst.2.2.1, (hb.block _ (by omega)).trans hst.2.2.2⟩
  refine (texts1_all (w.heap.size + 4) B w.heap.size 7 (by omega) W1 hBn hb.size (JC B w.heap.size w (R .ready none)) (JX B w.heap.size w (R .done (some .ret))) (JC.stable (Nat.le_refl _)) ⟨⟨_, h0, h1, h2, World.ownsRow_nil _ _ _ _⟩, h3, h4, hb.mono (by omega), by omega⟩ ?hY1 ?hY0 s i leaf hlf v hst1 r (hp.below hb (by omega)) hok).mono ?_
  case hY1 =>
    rintro pre text W ⟨⟨v, k1, k2, k3, kr⟩, kd, kl, kb, ks⟩ hpl
    refine YieldAt.mono (Rf.round (S := fun b' W' => b' = true ∧ JC B w.heap.size w (R .ready none) (pre ++ [text]) W' ∧ Below w.heap.size W W') hR.out hfn kl (by rfl) ?_) ?_
    · gi_wp2
      refine ⟨rfl, ?_⟩
      have k1' : Boxed _ _ _ _ := Rf.put_other (l := w.heap.size + 4) (o := R .busy none) k1 (by omega)
      have k2' : Boxed _ _ _ _ := Rf.put_other (l := w.heap.size + 4) (o := R .busy none) k2 (by omega)
      have k3' : Boxed _ _ _ _ := Rf.put_other (l := w.heap.size + 4) (o := R .busy none) k3 (by omega)
      have kr' := ownsRow_putObj kr (R .busy none) kl (by rw [hR.out]; rfl)
      have kd' := Rf.put_other (l := w.heap.size + 4) (o := R .busy none) kd (by omega)
      have kl' := Rf.put_same (R .busy none) kl
      have hz := Rf.size_put W (w.heap.size + 4) (R .busy none)
      have hbb : Below w.heap.size W (W.putObj (w.heap.size + 4) (R .busy none)) := Rf.below_put (Below.refl _ _) (by omega) (by omega)
      generalize W.putObj (w.heap.size + 4) (R .busy none) = Wb at *
      have c3 := k3'.cell
      have f3 := k3'.frozen
      obtain ⟨i0, hi0, hz0, hz1, hz2⟩ := info_parts infoS
      have HI := Lib.hid hi0; have HZ0 := Lib.hid hz0; have HZ1 := Lib.hid hz1; have HZ2 := Lib.hid hz2
      have HZ := Lib.hid hz
      clear hi0 hz0 hz1 hz2 hz
      have hzz : w.heap.size + 5 ≤ Wb.heap.size := by rw [HZ.out]; exact ks
      gi_wp2_with (gi_at_builtin; refine wpListIn_append_own _ rfl _ _ 22 rfl w.heap.size 9 i0 (.string ⟨#[]⟩) 1 16 Try.underlying22 HI.out HZ0.out HZ1.out HZ2.out rfl (by decide) _ _ _ rfl (kr'.alloc _) ⟨Wb.heap.size, 0, none⟩ 1 1 [.string text] rfl rfl (cell_one_new _ _ _) (by simp [Value.oneCell']) (by unfold maxLen; omega) (by omega) (by simp; omega) ?_; intro v' w1 hown' hgrow hnil; clear hnil; obtain ⟨g', cap', rfl⟩ := ownsRow_succ hown'; obtain ⟨e1, e2, e3, e4, e5⟩ := k3'.appended (by decide) kr' (by omega) (by omega) hown' hgrow; have c4 := e1.cell; have f4 := e1.frozen)
      show Rf.RoundEnds _ R _ _ _ (w1.setCell ⟨w.heap.size + 2, 0, none⟩ _)
      have q1 := ((k1'.alloc _).kept hgrow (k1'.not_row (by decide) kr')).other (B' := w.heap.size + 2) (by omega) (.slice (some ⟨g', 0, none⟩) (pre.length + 1) cap')
      have q2 := ((k2'.alloc _).kept hgrow (k2'.not_row (by decide) kr')).other (B' := w.heap.size + 2) (by omega) (.slice (some ⟨g', 0, none⟩) (pre.length + 1) cap')
      have qd := e4.same _ _ kd' rfl
      have ql := e4.same _ _ kl' (by rw [hR.out]; rfl)
      have qs := e5.size
      have qr : (w1.setCell ⟨w.heap.size + 2, 0, none⟩ (.slice (some ⟨g', 0, none⟩) (pre.length + 1) cap')).ownsRow w.heap.size 9 1 (.slice (some ⟨g', 0, none⟩) (pre.length + 1) cap') (pre ++ [text]).length ((pre ++ [text]).map Value.string) := by
        rw [List.length_append, List.map_append]; exact e3
      generalize w1.setCell ⟨w.heap.size + 2, 0, none⟩ (.slice (some ⟨g', 0, none⟩) (pre.length + 1) cap') = W2 at *
      have h5 : Below w.heap.size W (W2.putObj (w.heap.size + 4) (R .ready none)) := Rf.below_put (hbb.trans e5) (by omega) (by omega)
      exact ⟨ql, rfl, ⟨⟨_, Rf.put_other q1 (by omega), Rf.put_other q2 (by omega), Rf.put_other e2 (by omega), ownsRow_putObj qr _ ql (by rw [hR.out]; rfl)⟩, Rf.put_other qd (by omega), Rf.put_same _ ql, kb.trans (h5.mono (by omega)), by rw [Rf.size_put]; omega⟩, h5⟩
    · rintro e W' ⟨b', rfl, rfl, r1, r2⟩
      exact ⟨rfl, r1, r2⟩
  case hY0 =>
    rintro pre W ⟨⟨v, k1, k2, k3, kr⟩, kd, kl, kb, ks⟩
    refine YieldAt.mono (Rf.round (S := fun b' W' => b' = false ∧ JX B w.heap.size w (R .done (some .ret)) W') hR.out hfn kl (by rfl) ?_) ?_
    · gi_wp2
      refine ⟨rfl, ?_⟩
      have k1' : Boxed _ _ _ _ := Rf.put_other (l := w.heap.size + 4) (o := R .busy none) k1 (by omega)
      have k2' : Boxed _ _ _ _ := Rf.put_other (l := w.heap.size + 4) (o := R .busy none) k2 (by omega)
      have kd' := Rf.put_other (l := w.heap.size + 4) (o := R .busy none) kd (by omega)
      have kl' := Rf.put_same (R .busy none) kl
      have hz := Rf.size_put W (w.heap.size + 4) (R .busy none)
      have hbb : Below B w (W.putObj (w.heap.size + 4) (R .busy none)) := Rf.below_put kb (by omega) (by omega)
      generalize W.putObj (w.heap.size + 4) (R .busy none) = Wb at *
      have c1 := k1'.cell
      have f1 := k1'.frozen
      have c2 := k2'.cell
      have f2 := k2'.frozen
      have HZ := Lib.hid hz
      clear hz
      gi_wp2
      have q1 : Boxed ((Wb.setCell ⟨w.heap.size, 0, none⟩ (.slice none 0 0)).setCell ⟨w.heap.size + 1, 0, none⟩ (.bool false)) w.heap.size 22 (.slice none 0 0) := (k1'.set _).other (by omega) _
      have q2 : Boxed ((Wb.setCell ⟨w.heap.size, 0, none⟩ (.slice none 0 0)).setCell ⟨w.heap.size + 1, 0, none⟩ (.bool false)) (w.heap.size + 1) 4 (.bool false) := (k2'.other (by omega) _).set _
      have qd := Rf.set_other (b := w.heap.size + 1) (v := .bool false) (Rf.set_other (b := w.heap.size) (v := .slice none 0 0) kd' (by omega)) (by omega)
      have ql := Rf.set_other (b := w.heap.size + 1) (v := .bool false) (Rf.set_other (b := w.heap.size) (v := .slice none 0 0) kl' (by omega)) (by omega)
      have qb : Below B w ((Wb.setCell ⟨w.heap.size, 0, none⟩ (.slice none 0 0)).setCell ⟨w.heap.size + 1, 0, none⟩ (.bool false)) := (hbb.setCell (p := ⟨w.heap.size, 0, none⟩) (by simp; omega) _).setCell (p := ⟨w.heap.size + 1, 0, none⟩) (by simp; omega) _
      have qs : ((Wb.setCell ⟨w.heap.size, 0, none⟩ (.slice none 0 0)).setCell ⟨w.heap.size + 1, 0, none⟩ (.bool false)).heap.size = W.heap.size := by rw [Rf.size_set, Rf.size_set, HZ.out]
      generalize (Wb.setCell ⟨w.heap.size, 0, none⟩ (.slice none 0 0)).setCell ⟨w.heap.size + 1, 0, none⟩ (.bool false) = W2 at *
      exact ⟨ql, rfl, Rf.put_other q1 (by omega), Rf.put_other q2 (by omega), Rf.put_other qd (by omega), Rf.put_same _ ql, Rf.below_put qb (by omega) (by omega), by rw [Rf.size_put]; omega⟩
    · rintro e W' ⟨b', rfl, rfl, r1⟩
      exact ⟨rfl, r1⟩
  rintro e W2 ⟨⟨v', rfl⟩, ⟨ts, hts, ⟨vv, k1, k2, k3, kr⟩, kd, kl, kb, ks⟩ | ⟨hts, k1, k2, kd, kl, kb, ks⟩⟩
  · refine ⟨v', .ready, none, rfl, by decide, kl, ?_⟩
    obtain ⟨A, m, c, rfl⟩ := owns_form kr
    have k1' : Boxed _ _ _ _ := Rf.put_other (l := w.heap.size + 4) (o := R .exhausted none) k1 (by omega)
    have k2' : Boxed _ _ _ _ := Rf.put_other (l := w.heap.size + 4) (o := R .exhausted none) k2 (by omega)
    have k3' : Boxed _ _ _ _ := Rf.put_other (l := w.heap.size + 4) (o := R .exhausted none) k3 (by omega)
    have kr' := ownsRow_putObj kr (R .exhausted none) kl (by rw [hR.out]; rfl)
    have kd' := Rf.put_other (l := w.heap.size + 4) (o := R .exhausted none) kd (by omega)
    have hbb : Below B w (W2.putObj (w.heap.size + 4) (R .exhausted none)) := Rf.below_put kb (by omega) (by omega)
    show Exit.inBlock _ _ _ _ (W2.putObj (w.heap.size + 3 + 1) (R .exhausted none))
    generalize W2.putObj (w.heap.size + 4) (R .exhausted none) = W3 at *
    have c1 := k1'.cell; have f1 := k1'.frozen; have c2 := k2'.cell; have f2 := k2'.frozen; have c3 := k3'.cell
    gi_wp2
    have q1 : Boxed ((W3.setCell ⟨w.heap.size, 0, none⟩ (.slice A m c)).setCell ⟨w.heap.size + 1, 0, none⟩ (.bool true)) w.heap.size 22 (.slice A m c) := (k1'.set _).other (by omega) _
    have q2 : Boxed ((W3.setCell ⟨w.heap.size, 0, none⟩ (.slice A m c)).setCell ⟨w.heap.size + 1, 0, none⟩ (.bool true)) (w.heap.size + 1) 4 (.bool true) := (k2'.other (by omega) _).set _
    have qr := (kr'.kept (grownBy_setCell' W3 w.heap.size (.slice A m c)) (.inr (k1'.not_row (by decide) kr').symm))
    have qr2 := qr.kept (grownBy_setCell' _ (w.heap.size + 1) (.bool true)) (.inr ((k2'.other (B' := w.heap.size) (by omega) (.slice A m c)).not_row (by decide) qr).symm)
    have qd := Rf.set_other (b := w.heap.size + 1) (v := .bool true) (Rf.set_other (b := w.heap.size) (v := .slice A m c) kd' (by omega)) (by omega)
    have qb : Below B w ((W3.setCell ⟨w.heap.size, 0, none⟩ (.slice A m c)).setCell ⟨w.heap.size + 1, 0, none⟩ (.bool true)) := (hbb.setCell (p := ⟨w.heap.size, 0, none⟩) (by simp; omega) _).setCell (p := ⟨w.heap.size + 1, 0, none⟩) (by simp; omega) _
    generalize (W3.setCell ⟨w.heap.size, 0, none⟩ (.slice A m c)).setCell ⟨w.heap.size + 1, 0, none⟩ (.bool true) = W4 at *
    have r1 : Boxed (W4.putObj (w.heap.size + 3) (.deferred none)) _ _ _ := Rf.put_other (l := w.heap.size + 3) (o := .deferred none) q1 (by omega)
    have r2 : Boxed (W4.putObj (w.heap.size + 3) (.deferred none)) _ _ _ := Rf.put_other (l := w.heap.size + 3) (o := .deferred none) q2 (by omega)
    refine ⟨by simp, .inl ⟨_, _, rfl, run_takeDeferred qd, ?_⟩⟩
    refine ⟨.tuple #[.slice A m c, .bool true], ?_, .inl ⟨ts, _, rfl, rfl, ownsRow_putObj qr2 _ qd rfl⟩, Rf.below_put qb (by omega) (by have := qb.size; omega)⟩
    have c5 := r1.cell
    have c6 := r2.cell
    simp [results, Try.results30, go_sem, c5, c6]
  · refine ⟨v', .done, some .ret, rfl, by decide, kl, ?_⟩
    have k1' : Boxed _ _ _ _ := Rf.put_other (l := w.heap.size + 4) (o := R .exhausted (some .ret)) k1 (by omega)
    have k2' : Boxed _ _ _ _ := Rf.put_other (l := w.heap.size + 4) (o := R .exhausted (some .ret)) k2 (by omega)
    have kd' := Rf.put_other (l := w.heap.size + 4) (o := R .exhausted (some .ret)) kd (by omega)
    have hbb : Below B w (W2.putObj (w.heap.size + 4) (R .exhausted (some .ret))) := Rf.below_put kb (by omega) (by omega)
    show Code.wpIn _ _ _ _ _ _ (W2.putObj (w.heap.size + 3 + 1) (R .exhausted (some .ret)))
    generalize W2.putObj (w.heap.size + 4) (R .exhausted (some .ret)) = W3 at *
    have c1 := k1'.cell; have f1 := k1'.frozen; have c2 := k2'.cell; have f2 := k2'.frozen
    gi_wp2
    have r1 : Boxed (W3.putObj (w.heap.size + 3) (.deferred none)) _ _ _ := Rf.put_other (l := w.heap.size + 3) (o := .deferred none) k1' (by omega)
    have r2 : Boxed (W3.putObj (w.heap.size + 3) (.deferred none)) _ _ _ := Rf.put_other (l := w.heap.size + 3) (o := .deferred none) k2' (by omega)
    refine ⟨by simp, .inl ⟨_, _, rfl, run_takeDeferred kd', ?_⟩⟩
    refine ⟨.tuple #[.slice none 0 0, .bool false], ?_, .inr ⟨rfl, rfl⟩, Rf.below_put hbb (by omega) (by have := hbb.size; omega)⟩
    have c5 := r1.cell
    have c6 := r2.cell
    simp [results, Try.results30, go_sem, c5, c6]
end Go.Proofs.Ytcikhbamdbphaaa.MerV
