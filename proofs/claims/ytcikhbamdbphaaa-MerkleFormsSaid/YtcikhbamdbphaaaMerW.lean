/- merkle.Verify walked. -/
import Derived.Test.YtcikhbamdbphaaaMerV
set_option linter.unusedSimpArgs false
set_option linter.unusedVariables false
namespace Go.Proofs.Ytcikhbamdbphaaa.MerW
open Go.RowKit Go.Shelf Go.Proofs.Ytcikhbamdbphaaa.MerA Go.Proofs.Ytcikhbamdbphaaa.Mer Go.Proofs.Ytcikhbamdbphaaa.MerC Go.Proofs.Ytcikhbamdbphaaa.MerT Go.Proofs.Ytcikhbamdbphaaa.MerU Go.Proofs.Ytcikhbamdbphaaa.MerV
theorem texts_any (s i : Int) (leaf : ByteArray) (A : Option Addr) (m c : Nat) (w : World) : Calls Try.prog 31 #[.int .i64 s, .int .i64 i, .string leaf, .slice A m c] w
    fun e w' => e = .returned (.func (.func 41) #[] #[.pointer (some ⟨w.heap.size, 0, none⟩), .pointer (some ⟨w.heap.size + 1, 0, none⟩), .pointer (some ⟨w.heap.size + 2, 0, none⟩), .pointer (some ⟨w.heap.size + 3, 0, none⟩)]) ∧
      StI w.heap.size w' s i leaf (.slice A m c) ∧ Below w.heap.size w w' ∧ w'.heap.size = w.heap.size + 4 := by
  obtain ⟨W, hW, h0, h1, h2, h3, hs, hb⟩ := Rf.four w (.cells #[.int .i64 s] 3) (.cells #[.int .i64 i] 3) (.cells #[.string leaf] 9) (.cells #[.slice A m c] 25)
  have HW := Lib.hid hW
  have HS := Lib.hid hs
  clear hW hs
  go_enter Try.func31, Try.ntmps31
  go_wp2
  go_ret
  rw [HW.out]
  exact ⟨rfl, ⟨h0, h1, h2, h3⟩, hb, HS.out⟩
/-- The pair of calls. -/
def PathArg (w : World) (A : Option Addr) (m c : Nat) (r : List (Int × Bool)) : Prop := PathAt w.heap.size w (.slice A m c) r ∧ ∀ p ∈ r, 0 ≤ p.1 ∧ p.1 ≤ 18446744073709551615
theorem PathArg.below {w w' : World} {A : Option Addr} {m c : Nat} {r : List (Int × Bool)} (h : PathArg w A m c r) (hb : Below w.heap.size w w') : PathArg w' A m c r := by
  refine ⟨?_, h.2⟩
  obtain ⟨A', c', h1, h2, h3, h4⟩ := h.1.below hb (Nat.le_refl _)
  refine ⟨A', c', h1, h2, h3, fun h => ?_⟩
  obtain ⟨ad, h5, h6, h7⟩ := h4 h
  exact ⟨ad, h5, Nat.lt_of_lt_of_le h6 hb.size, h7⟩
theorem coll_any (s i : Int) (leaf : ByteArray) (hlf : leaf.size ≤ 140737488351232) (A : Option Addr) (m c : Nat) (r : List (Int × Bool)) (w0 w : World) (hp : PathArg w0 A m c r) (hst : StI w0.heap.size w s i leaf (.slice A m c)) (hb : Below w0.heap.size w0 w) (hz : w.heap.size = w0.heap.size + 4) :
    Calls Try.prog 30 #[.func (.func 41) #[] #[.pointer (some ⟨w0.heap.size, 0, none⟩), .pointer (some ⟨w0.heap.size + 1, 0, none⟩), .pointer (some ⟨w0.heap.size + 2, 0, none⟩), .pointer (some ⟨w0.heap.size + 3, 0, none⟩)]] w
      fun e w' => Coll w0.heap.size (texts s i leaf r) e w' ∧ Below w0.heap.size w0 w' := by
  refine (collect_any w0.heap.size w (by omega) s i leaf hlf _ hst r (hp.1.below hb (Nat.le_refl _)) hp.2).mono ?_
  rintro e w' ⟨h, h2⟩
  refine ⟨?_, hb.trans h2⟩
  rcases h with ⟨ts, v, h1, h2, h3⟩ | h
  · refine .inl ⟨ts, v, h1, h2, h3.1, ?_⟩
    rcases h3.2 with h4 | ⟨g, cap, cur, e1, e2, e3⟩
    · exact .inl h4
    · exact .inr ⟨g, cap, cur, e1, by omega, e3⟩
  · exact .inr h
theorem owns_strs {W : World} {base : Nat} {v : Value} {ts : List ByteArray} (h0 : 0 < ts.length) (h : W.ownsRow base 9 1 v ts.length (ts.map Value.string)) :
    ∃ g cap, v = .slice (some ⟨g, 0, none⟩) ts.length cap ∧ base ≤ g ∧ g < W.heap.size ∧ ts.length ≤ cap ∧ ts.length ≤ 9223372036854775807 ∧ ∀ (j : Nat) (hj : j < ts.length), W.cell? ⟨g, j, none⟩ = some (.string ts[j]) := by
  rcases h.2 with ⟨_, h⟩ | ⟨g, cap, cur, h1, h2, h3, h4, h5, h6, h7⟩
  · omega
  · refine ⟨g, cap, h1, h2, (Array.getElem?_eq_some_iff.1 h3).1, h4, by unfold maxLen at h5; omega, fun j hj => ?_⟩
    rw [Tool.cell_blk h3]
    have : (cur.toList.take (ts.length * 1))[j]? = (ts.map Value.string)[j]? := by rw [h7]
    rw [Nat.mul_one, List.getElem?_take_of_lt hj, List.getElem?_map, List.getElem?_eq_getElem hj, Array.getElem?_toList] at this
    exact this
set_option maxHeartbeats 4000000 in
theorem verify_any (root s i : Int) (leaf : ByteArray) (hlf : leaf.size ≤ 140737488351232) (A : Option Addr) (m c : Nat) (r : List (Int × Bool)) (w : World) (hp : PathArg w A m c r) :
    Calls Try.prog 18 #[.int .u64 root, .int .i64 s, .int .i64 i, .string leaf, .slice A m c] w fun e w' => e = .returned (.bool (verifyB root s i leaf r)) ∧ Below w.heap.size w w' := by
  go_enter Try.func18, Try.ntmps18
  go_wp2_with fail
  refine (texts_any s i leaf A m c w).mono ?_
  rintro e w1 ⟨rfl, hst, hb1, hz⟩
  have HZ := Lib.hid hz
  clear hz
  go_wp2_with fail
  refine (coll_any s i leaf hlf A m c r w w1 hp hst hb1 HZ.out).mono ?_
  rintro e w2 ⟨hc, hb2⟩
  rcases hc with ⟨ts, v, ht, rfl, hown⟩ | ⟨ht, rfl⟩
  · obtain ⟨hpos, hsz⟩ := texts_props ht hlf
    obtain ⟨g, cap, rfl, hg, hgs, hcap, hmx, hcell⟩ := owns_strs hpos hown
    have hl := hcell (ts.length - 1) (by omega)
    have hle := hsz ts[ts.length - 1] (List.getElem_mem _)
    have HT := Lib.hid ht
    clear ht hst hown hcell
    go_wp2_with fail
    refine (DigB.sum_any _ _ (by omega)).mono ?_
    rintro e w3 ⟨rfl, hb3⟩
    go_wp2
    go_ret
    refine ⟨?_, hb2.trans (hb3.mono hb2.size)⟩
    unfold verifyB
    rw [HT.out]
    simp only [List.getD_eq_getElem?_getD]
    rw [List.getElem?_eq_getElem (by omega)]
    rfl
  · have HT := Lib.hid ht
    clear ht hst
    go_wp2
    go_ret
    exact ⟨by unfold verifyB; rw [HT.out]; rfl, hb2⟩
end Go.Proofs.Ytcikhbamdbphaaa.MerW
