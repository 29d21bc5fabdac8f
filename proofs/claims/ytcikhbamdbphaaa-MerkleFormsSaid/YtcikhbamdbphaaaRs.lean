/- Arguments that are slices of strings, or of steps, opened at a row. -/
import Derived.Test.YtcikhbamdbphaaaPAllx0
import Derived.SliceStrings
import Derived.Deep.SlicePairs
import Derived.Lib.SmallJoins
import Derived.WideShapes
namespace Go.Proofs.Ytcikhbamdbphaaa.Rs
open Go.ChangeShapes Go.WideShapes Go.ChangeAt Go.RowKit
open Go.Deep Go.Proofs.Ytcikhbamdbphaaa Go.Proofs.Ytcikhbamdbphaaa.PAll Go.Proofs.YtcikhbamdbphaaaW.PrintWords Go.Proofs.YtcikhbamdbphaaaW.PrintLast
section
variable {H : Type} {enc : TypeId × Value → H} {P : Program} {W : World} {base : Nat}
theorem open_strs {t e : TypeId} {a : Option Addr} {len cap : Nat} {d : DataW H} {p : List MemPlace} (ht : P.underlying t = some (.slice e)) (he : P.underlying e = some .string) (hc : P.cellsOf e = 1)
    (h : DataW.Trod enc P W base (fun _ => true) true t (.slice a len cap) d p) : ∃ z : List ByteArray, z.length = len ∧ len ≤ cap ∧ Kd.C Kd.string W a len z := by
  obtain ⟨fuel, hf⟩ := h
  rcases open_strings ht he hc hf with ⟨hcs, _⟩ | ⟨x, l, c, ss, hcs, _, hl, hm, hz, _, hcell, _⟩
  · simp [Value.cells] at hcs
    obtain ⟨rfl, rfl, rfl⟩ := hcs
    exact ⟨[], rfl, Nat.le_refl _, rfl, by omega, fun h => by omega⟩
  · simp [Value.cells] at hcs
    obtain ⟨rfl, rfl, rfl⟩ := hcs
    have hz' : ss.length = cap := by simpa using hz
    refine ⟨ss.take len, by rw [List.length_take]; omega, hl, by rw [List.length_take]; omega, by unfold maxLen at hm; omega, fun h0 => ⟨x, rfl, fun j s hj => ?_⟩⟩
    have hjl : j < len := by have := (List.getElem?_eq_some_iff.1 hj).1; rw [List.length_take] at this; omega
    rw [List.getElem?_take_of_lt hjl] at hj
    refine ⟨[.string s], rfl, rfl, fun i u hi => ?_⟩
    have hi0 : i = 0 := by have := (List.getElem?_eq_some_iff.1 hi).1; simp at this; omega
    subst hi0
    obtain rfl : Value.string s = u := by simpa using hi
    have := hcell j (by omega)
    rw [List.getD_eq_getElem?_getD, hj] at this
    simpa [Kd.string, Kd.scalar] using this
end
theorem open_forks {H : Type} {enc : TypeId × Value → H} {W : World} {base : Nat} {a : Option Addr} {len cap : Nat} {d : DataW H} {p : List MemPlace}
    (h : DataW.Trod enc Try.prog W base (fun _ => true) true 25 (.slice a len cap) d p) : ∃ z : List S42, z.length = len ∧ len ≤ cap ∧ Kd.C k42 W a len z ∧ ∀ x ∈ z, (Lit.int .u64 x.f0).wf = true := by
  obtain ⟨fuel, hf⟩ := h
  rcases open_slice_pairs Try.underlying25 Try.underlying42 (by kernel_rfl) rfl rfl (by kernel_rfl) (by kernel_rfl) hf with ⟨hcs, _⟩ | ⟨x, l, c, m, n, V0, V1, D0, D1, P0, P1, hcs, _, hl, hm, hmm, _, hx⟩
  · simp [Value.cells] at hcs
    obtain ⟨rfl, rfl, rfl⟩ := hcs
    exact ⟨[], rfl, Nat.le_refl _, ⟨rfl, by omega, fun h => by omega⟩, fun _ h => by cases h⟩
  · simp [Value.cells] at hcs
    obtain ⟨rfl, rfl, rfl⟩ := hcs
    have hm' : m = cap := by simpa using hmm
    subst hm'
    have each : ∀ i, i < len → ∃ x : S42, V0 i = .int .u64 x.f0 ∧ V1 i = .bool x.f1 ∧ (Lit.int .u64 x.f0).wf = true := fun i hi => by
      obtain ⟨_, _, h1, h2⟩ := hx i (by omega)
      obtain ⟨y, e1, _, hw⟩ := DataW.trod_int Try.underlying24 h1
      obtain ⟨b, e2, _⟩ := DataW.trod_bool Try.underlying4 h2
      exact ⟨⟨y, b⟩, by simpa using e1, by simpa using e2, hw⟩
    have : Inhabited S42 := ⟨z42⟩
    obtain ⟨X, hX⟩ := choose_lt each
    refine ⟨(List.range len).map X, by simp, hl, ⟨by simp, by unfold maxLen at hm; omega, fun h0 => ⟨x, rfl, fun j p hj => ?_⟩⟩, fun y hy => ?_⟩
    · have hjl : j < len := by have := (List.getElem?_eq_some_iff.1 hj).1; simpa using this
      obtain rfl : X j = p := by simpa [hjl] using hj
      obtain ⟨c0, c1, _, _⟩ := hx j (by omega)
      obtain ⟨e0, e1, _⟩ := hX j hjl
      refine ⟨[.int .u64 (X j).f0, .bool (X j).f1], rfl, k42_mk W (X j), fun i u hi => ?_⟩
      have hi2 : i = 0 ∨ i = 1 := by have := (List.getElem?_eq_some_iff.1 hi).1; simp at this; omega
      rcases hi2 with rfl | rfl
      · obtain rfl : Value.int .u64 (X j).f0 = u := by simpa using hi
        rw [← e0]; exact c0
      · obtain rfl : Value.bool (X j).f1 = u := by simpa using hi
        rw [← e1]; exact c1
    · obtain ⟨i, hi, rfl⟩ := List.mem_map.1 hy
      exact (hX i (List.mem_range.1 hi)).2.2
theorem open_fork {H : Type} {enc : TypeId × Value → H} {r : Reach} {b0 : Nat} {W : World} {base : Nat} {v : Value} {d : DataW H} {p : List MemPlace} (hv : Value.okWide Try.prog W r b0 42 v)
    (h : DataW.Trod enc Try.prog W base (fun _ => true) true 42 v d p) : ∃ (n : Int) (b : Bool), v = .agg #[.int .u64 n, .bool b] ∧ (Lit.int .u64 n).wf = true := by
  obtain ⟨v0, v1, y0, y1, n, rfl, _, _, h1, h2⟩ := Go.Joins.open_agg2 Try.underlying42 (by kernel_rfl) (by kernel_rfl) hv h
  obtain ⟨y, e1, _, hw⟩ := DataW.trod_int Try.underlying24 h1
  obtain ⟨b, e2, _⟩ := DataW.trod_bool Try.underlying4 h2
  exact ⟨y, b, by rw [show v0 = .int .u64 y by simpa using e1, show v1 = .bool b by simpa using e2], hw⟩
end Go.Proofs.Ytcikhbamdbphaaa.Rs
