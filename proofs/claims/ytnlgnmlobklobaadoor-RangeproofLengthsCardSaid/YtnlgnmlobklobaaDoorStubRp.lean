/- The contracts of packages rangeproof and commitment (the functions that are walked by hand) in the printed form: '.f' is what the function computes, '.calls' that the machine's call does. -/
import Derived.Test.YtnlgnmlobklobaaDoorBit
import Derived.Test.YtnlgnmlobklobaaDoorDigX
import Derived.Test.YtnlgnmlobklobaaDoorWWords
import Derived.Test.YtnlgnmlobklobaaDoorWLast
set_option linter.unusedVariables false
namespace Go.Proofs.YtnlgnmlobklobaaDoor.Stub
open Go.RowKit Go.Proofs.YtnlgnmlobklobaaDoor Go.Proofs.YtnlgnmlobklobaaDoor.Com Go.Proofs.YtnlgnmlobklobaaDoor.Hash Go.Proofs.YtnlgnmlobklobaaDoorW.PrintWords Go.Proofs.YtnlgnmlobklobaaDoorW.PrintLast
def i64ok (n : Int) : Bool := decide (-9223372036854775808 ≤ n ∧ n ≤ 9223372036854775807)
theorem i64ok_of {a : Int} (h : i64ok a = true) : -9223372036854775808 ≤ a ∧ a ≤ 9223372036854775807 := by simpa [i64ok] using h
def hashOk (a0 : ByteArray) (l1 : List Int) : Bool := decide (a0.size ≤ 1000000000) && decide (l1.length ≤ 1000) && l1.all i64ok
def rangeproof_hash.f (a0 : ByteArray) (l1 : List Int) : Option Int := if hashOk a0 l1 = true then some (hsh a0 l1) else none
theorem nums_of {w : World} {A : Option Addr} {n : Nat} {l : List Int} (h : Kd.C (Kd.int .i64) w A n l) : Nums w A l := by
  intro h0
  have hn := h.1
  obtain ⟨ad, hA, hc⟩ := h.2.2 (by omega)
  have hcell : ∀ (i : Nat) n, l[i]? = some n → w.cell? (ad.add i) = some (.int .i64 n) := fun i s hi => by
    obtain ⟨c, h1, h2, h3⟩ := hc i s hi
    have h4 : c = [.int .i64 s] := h2
    subst h4
    have := h3 0 (.int .i64 s) rfl
    simpa [Kd.int, Kd.scalar] using this
  refine ⟨ad, hA, ?_, hcell⟩
  have := World.block_lt_of_cell? w _ (hcell 0 _ (List.getElem?_eq_getElem h0))
  rwa [show (ad.add 0).block = ad.block from by unfold Addr.add; split <;> rfl] at this
theorem rangeproof_hash.calls (a0 : ByteArray) (A1 : Option Addr) (c1 : Nat) (l1 : List Int) (r : Int) (w : World) (hr1 : Kd.C (Kd.int .i64) w A1 l1.length l1) (hc1 : l1.length ≤ c1) (h : rangeproof_hash.f a0 l1 = some r) (hT : TabTen w) :
    Calls Tryd.prog 24 #[.string a0, .slice A1 l1.length c1] w fun e w' => e = .returned (.int .i64 r) ∧ Below w.heap.size w w' := by
  unfold rangeproof_hash.f at h
  split at h
  · rename_i hs
    cases h
    unfold hashOk at hs
    simp only [Bool.and_eq_true, decide_eq_true_eq] at hs
    refine hash_any a0 A1 l1 c1 w (nums_of hr1) (fun n hn => i64ok_of (List.all_eq_true.1 hs.2 n hn)) hs.1.2 hs.1.1 hT
  · cases h
def bitOk (a0 a1 : Int) (a2 : ByteArray) (a3 : Int) : Bool := decide (a0 = 0 ∨ a0 = 1) && nuB a1 && decide (a2.size ≤ 1000000) && decide (0 ≤ a3 ∧ a3 < 100)
def bitP (a0 a1 : Int) (a2 : ByteArray) (a3 : Int) : Bp := if a0 = 0 then bit0P a1 a2 a3 else bit1P a1 a2 a3
def tup (x : Bp) : Int × Int × Int × Int × Int × Int × Int := (x.c, x.f0, x.f1, x.c0, x.c1, x.r0, x.r1)
def rangeproof_proveBit.f (a0 a1 : Int) (a2 : ByteArray) (a3 : Int) : Option (Int × Int × Int × Int × Int × Int × Int) := if bitOk a0 a1 a2 a3 = true then some (tup (bitP a0 a1 a2 a3)) else none
theorem rangeproof_proveBit.calls (a0 a1 : Int) (a2 : ByteArray) (a3 : Int) (r1 r2 r3 r4 r5 r6 r7 : Int) (w : World) (h : rangeproof_proveBit.f a0 a1 a2 a3 = some (r1, r2, r3, r4, r5, r6, r7)) (hG : TabGen w) (hT : TabTen w) :
    Calls Tryd.prog 25 #[.int .i64 a0, .int .i64 a1, .string a2, .int .i64 a3] w fun e w' => e = .returned (.agg #[.int .i64 r1, .int .i64 r2, .int .i64 r3, .int .i64 r4, .int .i64 r5, .int .i64 r6, .int .i64 r7]) ∧ Below w.heap.size w w' := by
  unfold rangeproof_proveBit.f at h
  split at h
  · rename_i hs
    unfold bitOk at hs
    simp only [Bool.and_eq_true, decide_eq_true_eq] at hs
    obtain ⟨⟨⟨h0, h1⟩, h2⟩, h3⟩ := hs
    unfold bitP tup at h
    rcases h0 with rfl | rfl
    · rw [if_pos rfl] at h
      cases h
      exact bit0 a1 a3 a2 h1 h3 h2 w hG hT
    · rw [if_neg (by decide)] at h
      cases h
      exact bit1 a1 a3 a2 h1 h3 h2 w hG hT
  · cases h
def rangeproof_isRight.f (c f0 f1 c0 c1 r0 r1 : Int) : Option Bool := some (rightB ⟨c, f0, f1, c0, c1, r0, r1⟩)
theorem rangeproof_isRight.calls (c f0 f1 c0 c1 r0 r1 : Int) (r : Bool) (w : World) (h : rangeproof_isRight.f c f0 f1 c0 c1 r0 r1 = some r) :
    Calls Tryd.prog 30 #[.agg #[.int .i64 c, .int .i64 f0, .int .i64 f1, .int .i64 c0, .int .i64 c1, .int .i64 r0, .int .i64 r1]] w fun e w' => e = .returned (.bool r) ∧ Below w.heap.size w w' := by
  cases h
  exact right7 c f0 f1 c0 c1 r0 r1 w
/-- What Extract answers. -/
def extrP (c f0 f1 c0 c1 r0 r1 x g0 g1 d0 d1 s0 s1 : Int) : Int × Int × Bool :=
  if c = x ∧ f0 = g0 ∧ f1 = g1 ∧ rightB ⟨c, f0, f1, c0, c1, r0, r1⟩ = true ∧ rightB ⟨x, g0, g1, d0, d1, s0, s1⟩ = true then
    if c0 ≠ d0 then (0, (r0 - s0 + 1073741789) % 1073741789 * pq 1073741787 ((c0 - d0 + 1073741789) % 1073741789) % 1073741789, true)
    else if c1 ≠ d1 then (1, (r1 - s1 + 1073741789) % 1073741789 * pq 1073741787 ((c1 - d1 + 1073741789) % 1073741789) % 1073741789, true)
    else (0, 0, false)
  else (0, 0, false)
def rangeproof_Extract.f (c f0 f1 c0 c1 r0 r1 x g0 g1 d0 d1 s0 s1 : Int) : Option (Int × Int × Bool) := some (extrP c f0 f1 c0 c1 r0 r1 x g0 g1 d0 d1 s0 s1)
theorem rangeproof_Extract.calls (c f0 f1 c0 c1 r0 r1 x g0 g1 d0 d1 s0 s1 : Int) (t1 t2 : Int) (t3 : Bool) (w : World) (h : rangeproof_Extract.f c f0 f1 c0 c1 r0 r1 x g0 g1 d0 d1 s0 s1 = some (t1, t2, t3)) :
    Calls Tryd.prog 12 #[.agg #[.int .i64 c, .int .i64 f0, .int .i64 f1, .int .i64 c0, .int .i64 c1, .int .i64 r0, .int .i64 r1], .agg #[.int .i64 x, .int .i64 g0, .int .i64 g1, .int .i64 d0, .int .i64 d1, .int .i64 s0, .int .i64 s1]] w
      fun e w' => e = .returned (.tuple #[.int .i64 t1, .int .i64 t2, .bool t3]) ∧ Below w.heap.size w w' := by
  have h := Option.some.inj h
  unfold extrP at h
  by_cases e1 : c = x
  · subst e1
    by_cases e2 : f0 = g0
    · subst e2
      by_cases e3 : f1 = g1
      · subst e3
        by_cases e4 : c0 = d0
        · subst e4
          by_cases e5 : c1 = d1
          · subst e5
            have : (t1, t2, t3) = (0, 0, false) := by
              rw [← h]
              split
              · rw [if_neg (by simp), if_neg (by simp)]
              · rfl
            cases this
            exact extract_no3 c f0 f1 c0 c1 r0 r1 s0 s1 w
          · by_cases hA : rightB ⟨c, f0, f1, c0, c1, r0, r1⟩ = true
            · by_cases hB : rightB ⟨c, f0, f1, c0, d1, s0, s1⟩ = true
              · rw [if_pos ⟨rfl, rfl, rfl, hA, hB⟩, if_neg (by simp), if_pos e5] at h
                cases h
                exact extract_one c f0 f1 c0 c1 r0 r1 d1 s0 s1 hA hB e5 w
              · rw [if_neg (fun z => hB z.2.2.2.2)] at h
                cases h
                exact extract_no5b c f0 f1 c0 c1 r0 r1 d1 s0 s1 e5 hA (by simpa using hB) w
            · rw [if_neg (fun z => hA z.2.2.2.1)] at h
              cases h
              exact extract_no4b c f0 f1 c0 c1 r0 r1 d1 s0 s1 e5 (by simpa using hA) w
        · by_cases hA : rightB ⟨c, f0, f1, c0, c1, r0, r1⟩ = true
          · by_cases hB : rightB ⟨c, f0, f1, d0, d1, s0, s1⟩ = true
            · rw [if_pos ⟨rfl, rfl, rfl, hA, hB⟩, if_pos e4] at h
              cases h
              exact extract_zero c f0 f1 c0 c1 r0 r1 d0 d1 s0 s1 hA hB e4 w
            · rw [if_neg (fun z => hB z.2.2.2.2)] at h
              cases h
              exact extract_no5 c f0 f1 c0 c1 r0 r1 d0 d1 s0 s1 e4 hA (by simpa using hB) w
          · rw [if_neg (fun z => hA z.2.2.2.1)] at h
            cases h
            exact extract_no4 c f0 f1 c0 c1 r0 r1 d0 d1 s0 s1 e4 (by simpa using hA) w
      · rw [if_neg (fun z => e3 z.2.2.1)] at h
        cases h
        exact extract_no2b c f0 f1 c0 c1 r0 r1 g1 d0 d1 s0 s1 e3 w
    · rw [if_neg (fun z => e2 z.2.1)] at h
      cases h
      exact extract_no2 c f0 f1 c0 c1 r0 r1 g0 g1 d0 d1 s0 s1 e2 w
  · rw [if_neg (fun z => e1 z.1)] at h
    cases h
    exact extract_no1 c f0 f1 c0 c1 r0 r1 x g0 g1 d0 d1 s0 s1 e1 w
def commitment_Commit.f (a0 a1 : Int) : Option (Int × Int) := some ((comI a0 a1).1, (comI a0 a1).2)
theorem commitment_Commit.calls (a0 a1 r1 r2 : Int) (w : World) (h : commitment_Commit.f a0 a1 = some (r1, r2)) (hG : TabGen w) :
    Calls Tryd.prog 17 #[.int .i64 a0, .int .i64 a1] w fun e w' => e = .returned (.tuple #[.int .i64 r1, .int .i64 r2]) ∧ Below w.heap.size w w' := by
  have h := Option.some.inj h
  have := commit_any a0 a1 w hG
  rw [(Prod.mk.inj h).1, (Prod.mk.inj h).2] at this
  exact this
def powF (a0 a1 : Int) : Int := if a0 < 0 ∨ 2147483579 ≤ a0 ∨ a1 < 0 then 0 else pwI a0 a1
def commitment_Power.f (a0 a1 : Int) : Option Int := if a1 ≤ 9223372036854775807 then some (powF a0 a1) else none
theorem commitment_Power.calls (a0 a1 r : Int) (w : World) (h : commitment_Power.f a0 a1 = some r) :
    Calls Tryd.prog 18 #[.int .i64 a0, .int .i64 a1] w fun e w' => e = .returned (.int .i64 r) ∧ Below w.heap.size w w' := by
  unfold commitment_Power.f powF at h
  split at h
  · cases h
    split
    · refine (power_out a0 a1 (by omega) w).mono ?_
      rintro e w' ⟨he, hw⟩
      exact ⟨he, hw ▸ Below.refl _ _⟩
    · exact power_int a0 a1 (by omega) w
  · cases h
end Go.Proofs.YtnlgnmlobklobaaDoor.Stub
